/-
  Texts of this claim, joined (by a program of the claim's author): GDel, GOrd, GSet, GKids, GSame, GGiv, GGrA, NormPlain, Clone, GGrB, GGrP, GEnt, GFoE, GForP, GDocP.
-/
import Derived.Test.YtmkgajdgnmolkaaGreatR1
import Derived.Test.YtmkgajdgnmolkaaGreatR3
import Derived.Deep.QuietTactic
import Derived.BigQuiet
import Derived.Test.YtmkgajdgnmolkaaGreatR2
import Derived.Laws.StructEq
import Derived.Deep.Onto
namespace Go.Proofs.YtmkgajdgnmolkaaGreat
set_option maxRecDepth 100000
set_option maxHeartbeats 16000000
section
open Go.RowKit Go.Lib
theorem step_append_runI {P : Program} {ops : Array Oper} {o : Oper} {a : Act} {w : World} {K : Act → World → Prop} {Q : Exit → Act → World → Prop} {E : Prop}
  (hg : o.guard = none) (d x : Operand) (dT sT : TypeId) (hop : o.op = Op.call { callee := Callee.builtin Builtin.append, args := #[d, x], argTypes := #[dT, sT] })
  (v u : Value) (hd : a.eval d = v) (hx : a.eval x = u) {v' : Value} {w' : World} (hr : (Builtin.append_ #[dT, sT] o.type #[v, u]).run P w = .ok v' w') (hK : K (a.put o.dst v') w') :
  if Region.wanted o (yielded ops a.tmps) = true then Oper.wp P o a w K Q else E := by
 have hw : Region.wanted o (yielded ops a.tmps) = true := by simp [Region.wanted, hg]
 rw [if_pos hw]
 unfold Oper.wp
 simp [execOp, hop, resolve, invoke, builtin, hd, hx, hr, Result.andThen]
 exact hK
theorem wpList_clear_runI {P : Program} (w : World) {ops : Array Oper} {rest : List Oper} {o : Oper} {a : Act} {Q : Exit → Act → World → Prop} (hgd : o.guard = none) (d : Operand) (t : TypeId)
  (ho : o.op = .call { callee := .builtin .clear, args := #[d], argTypes := #[t] }) (v : Value) (hd : a.eval d = v) {v' : Value} {w' : World}
  (hr : (Builtin.clear_ #[t] o.type #[v]).run P w = .ok v' w') (h : wpList P ops Q rest (a.put o.dst v') w') : wpList P ops Q (o :: rest) a w := by
 refine wpList_plain hgd fun _ hK => ?_
 unfold Oper.wp execOp
 simp only [ho, resolve, invoke, builtin, Sem.run_bind, Sem.run_pure, Result.andThen_ok, List.map_toArray, List.map_cons, List.map_nil, hd, hr]
 exact hK _ _ h
theorem del_int (g c k m : Nat) (cur : Array Value) (xs : List Value) (w : World) (hg : w.heap[g]? = some (.cells cur 3 (0, 0))) (hcs : cur.size = c * 1) (hx : cur.toList.take ((m + 1) * 1) = xs) (h1 : ∀ v ∈ xs, v.oneCell' = true)
  (hn : m ≤ 1000000) (hk : k ≤ m) (hnc : m + 1 ≤ c) (hcm : c ≤ maxLen) :
  Calls Tryz.prog 80 #[.slice (some ⟨g, 0, none⟩) (m + 1) c, .int .i64 k, .int .i64 ((k : Int) + 1)] w (RowPost w (.slice (some ⟨g, 0, none⟩) (m + 1) c) fun w' v' => w'.ownsRow 0 3 1 v' m (xs.take (k * 1) ++ xs.drop ((k + 1) * 1)) ∧ v'.ownBlock = some g) := by
 obtain ⟨i0, hi0, hz0, hzs, hzb⟩ := info_parts infoInt
 have hxl : xs.length = (m + 1) * 1 := by rw [← hx, List.length_take, Array.length_toList, hcs]; omega
 have hcur : ∀ j v, xs[j]? = some v → w.cell? ⟨g, j, none⟩ = some v := fun j v hj => by
  have : cur[j]? = some v := by
   rw [← hx, List.getElem?_take] at hj
   split at hj
   ·simpa using hj
   ·cases hj
  simp [World.cell?, hg, this]
 obtain ⟨c1, hc1⟩ : ∃ c1 : Array Value, c1 = (cur.toList.take (k * i0.size) ++ xs.drop ((k + 1) * 1) ++ cur.toList.drop (k * i0.size + (xs.drop ((k + 1) * 1)).length)).toArray := ⟨_, rfl⟩
 have hc1s : c1.size = c * 1 := by rw [hc1, hzs]; simp only [List.size_toArray, List.length_append, List.length_take, List.length_drop, Array.length_toList]; omega
 have hap : ∀ ty (a : Addr) sc, (k < m → a = ⟨g, (k + 1) * 1, none⟩) → (Builtin.append_ #[43, 43] ty #[.slice (some ⟨g, 0, none⟩) k c, .slice (some a) (m - k) sc]).run Tryz.prog w.drew = .ok (.slice (some ⟨g, 0, none⟩) m c) (w.drew.setRow g c1) := fun ty a sc ha => by
  have h := run_append_room (P := Tryz.prog) w.drew 43 ty 3 i0 Tryz.underlying43 hi0 g k c cur hg a (m - k) sc (xs.drop ((k + 1) * 1)) (by rw [List.length_drop, hzs]; omega) (fun j v hj => by
   have hj' : j < xs.length - (k + 1) * 1 := by have := (List.getElem?_eq_some_iff.1 hj).1; rwa [List.length_drop] at this
   rw [ha (by omega), Addr.add_lit]
   exact hcur ((k + 1) * 1 + j) v (by rwa [List.getElem?_drop] at hj)) (fun v hv => h1 v (List.mem_of_mem_drop hv)) (by omega) (by rw [List.length_drop, hzs]; omega)
  rw [h, hc1, show k + (m - k) = m by omega]
 have fin : ∀ (W1 : World) (c1 : Array Value), W1.heap[g]? = some (.cells c1 3 (0, 0)) → c1.size = c * 1 → c1.toList.take (m * 1) = xs.take (k * 1) ++ xs.drop ((k + 1) * 1) → w.grownBy W1 (some g) →
   ∃ W2, (∀ ty sc, (Builtin.clear_ #[43] ty #[.slice (some ⟨g, m * 1, none⟩) 1 sc]).run Tryz.prog W1 = .ok (.tuple #[]) W2) ∧ RowPost w (.slice (some ⟨g, 0, none⟩) (m + 1) c) (fun w' v' => w'.ownsRow 0 3 1 v' m (xs.take (k * 1) ++ xs.drop ((k + 1) * 1)) ∧ v'.ownBlock = some g) (.returned (.slice (some ⟨g, 0, none⟩) m c)) W2 := by
  intro W1 c1 hg1 hc1s e1 hgr1
  obtain ⟨c2, hc2⟩ : ∃ c2 : Array Value, c2 = (c1.toList.take (m * 1) ++ [Value.int .i64 0] ++ c1.toList.drop (m * 1 + 1)).toArray := ⟨_, rfl⟩
  have hg2 : (W1.setRow g c2).heap[g]? = some (.cells c2 3 (0, 0)) := setRow_heap W1 g c1 c2 _ _ hg1
  refine ⟨W1.setRow g c2, fun ty sc => ?_, _, rfl, ⟨row_mk hg2 (by omega) hcm ?_ ?_, rfl⟩, ?_, fun b hb => .inl hb⟩
  ·have hst := run_storeCells_at Tryz.prog g (m * 1) 3 [Value.int .i64 0] 0 c1 W1 hg1 (by rw [hc1s]; show _ + _ + 1 ≤ _; omega) (by decide)
   have hz : (zeroValue 3).run Tryz.prog W1 = .ok (Value.int .i64 0) W1 := Tryz.zeroValue3 W1
   rw [hc2]
   simp only [Nat.add_zero] at hst
   simp only [Builtin.clear_, List.getElem?_toArray, List.getElem?_cons_zero, Sem.run_bind, run_underlying Tryz.underlying43, Result.andThen_ok, hz]
   have hzc : (Builtin.zeroCells (Value.int .i64 0).cells 1).toList = [Value.int .i64 0] := by kernel_rfl
   rw [hzc, hst]
   rfl
  ·rw [hc2]; simp only [List.size_toArray, List.length_append, List.length_take, List.length_drop, Array.length_toList]; show _ + 1 + _ = _; omega
  ·rw [hc2]
   show List.take _ (_ ++ _ ++ _) = _
   rw [List.append_assoc, List.take_append_of_le_length (by simp only [List.length_take, Array.length_toList]; omega), List.take_take, Nat.min_self, e1]
  ·refine ⟨hgr1.os, hgr1.tape, hgr1.output, by simp; exact hgr1.size, fun j hj hne' => ?_⟩
   have hne2 : j ≠ g := fun e => hne' (by rw [e]; rfl)
   rw [setRow_other _ g j _ hne2]; exact hgr1.block j hj hne'
 unfold maxLen at hcm
 have hk0 : (0 : Int) ≤ k := by omega
 have hk1 : (k : Int) ≤ (m : Int) + 1 := by omega
 have hk2 : (k : Int) + 1 ≤ (m : Int) + 1 := by omega
 have hm1 : (m : Int) + 1 ≤ c := by omega
 have hkne : ((k : Int) == (k : Int) + 1) = false := by simp; omega
 have hck : ¬ (c = k) := by omega
 have hcm1 : ¬ (c = m) := by omega
 have htn : ((k : Int) + 1).toNat = k + 1 := by omega
 have htm : ((m : Int) + 1).toNat = m + 1 := by omega
 have hb0 : (0 : Int) ≤ (k : Int) + 1 := by omega
 have hkk : (k : Int) ≤ (k : Int) + 1 := by omega
 have hmm : (m : Int) ≤ (m : Int) + 1 := by omega
 have hmc : (m : Int) ≤ c := by omega
 have hsub : m + 1 - m = 1 := by omega
 have hkc : k ≤ c := by omega
 have hkc' : (k : Int) ≤ c := by omega
 by_cases hkm : k < m
 ·obtain ⟨W2, hcl, hpost⟩ := fin (w.drew.setRow g c1) c1 (setRow_heap w.drew g cur c1 _ _ hg) hc1s (by
   rw [hc1, hzs]
   show List.take _ (_ ++ _ ++ _) = _
   rw [List.take_append_of_le_length (by simp only [List.length_append, List.length_take, List.length_drop, Array.length_toList]; omega), ← hx, List.take_take, Nat.min_eq_left (by omega)]
   exact List.take_of_length_le (by simp only [List.length_append, List.length_take, List.length_drop, Array.length_toList]; omega)) ⟨rfl, rfl, rfl, by simp, fun j hj hne' => by
    rw [setRow_other _ g j _ (fun e => hne' (by rw [e]))]; rfl⟩
  have HPOST := Lib.hid hpost
  obtain ⟨W1, hW1⟩ : ∃ W1, W1 = w.drew.setRow g c1 := ⟨_, rfl⟩
  have hap1 : ∀ ty sc, _ := fun (ty : TypeId) (sc : Nat) => hap ty ⟨g, (k + 1) * 1, none⟩ sc (fun _ => rfl)
  rw [← hW1] at hap1 hcl
  simp only [Nat.mul_one] at hap1 hcl
  have hck1 : ¬ (c = k + 1) := by omega
  clear hap fin hpost hg hcs hx h1 hcur hxl hc1s hc1 hW1 hi0 hz0 hzs hzb hkm
  go_enter Tryz.func80, Tryz.ntmps80
  go_wp2_with fail
  go_region_law (refine step_append_runI rfl (.tmp 22) (.tmp 25) 43 43 rfl (.slice (some ⟨g, 0, none⟩) k c) (.slice (some ⟨g, k + 1, none⟩) (m - k) (c - (k + 1))) (by simp [Act.eval, Act.put]) (by simp [Act.eval, Act.put]) (hap1 _ _) ?_)
  go_wp2_with (at_builtin; refine wpList_clear_runI _ rfl _ 43 rfl _ rfl (hcl _ _) ?_)
  go_ret
  exact HPOST.out
 ·have hmk : m = k := by omega
  subst hmk
  obtain ⟨W2, hcl, hpost⟩ := fin w.drew cur hg hcs (by
   rw [← hx, List.take_take, Nat.min_eq_left (by omega), List.drop_eq_nil_of_le (by rw [List.length_take]; omega), List.append_nil]) ⟨rfl, rfl, rfl, Nat.le_refl _, fun _ _ _ => rfl⟩
  simp only [Nat.mul_one] at hcl
  have HPOST := Lib.hid hpost
  clear hap fin hpost hg hcs hx h1 hcur hxl hc1s hc1 hi0 hz0 hzs hzb hkm
  by_cases hck1 : c = m + 1
  ·subst hck1
   go_enter Tryz.func80, Tryz.ntmps80
   go_wp2_with fail
   go_region_law fail
   go_wp2_with (at_builtin; refine wpList_clear_runI _ rfl _ 43 rfl _ rfl (hcl _ _) ?_)
   go_ret
   exact HPOST.out
  ·go_enter Tryz.func80, Tryz.ntmps80
   go_wp2_with fail
   go_region_law fail
   go_wp2_with (at_builtin; refine wpList_clear_runI _ rfl _ 43 rfl _ rfl (hcl _ _) ?_)
   go_ret
   exact HPOST.out
theorem Delete_int (v : Value) (l : List Int) (k : Nat) (w : World) (hrow : intRow w v l) (hn : l.length ≤ 1000000) (hk : k < l.length) :
  Calls Tryz.prog 80 #[v, .int .i64 k, .int .i64 ((k : Int) + 1)] w (RowPost w v fun w' v' => intRow w' v' (l.eraseIdx k)) := by
 have h1 : ∀ u ∈ l.map (Value.int .i64), u.oneCell' = true := fun u hu => by
  obtain ⟨a, _, rfl⟩ := List.mem_map.1 hu; rfl
 rcases hrow.2 with ⟨_, h0⟩ | ⟨g, cap, cur, rfl, _, hg, hnc, hcm, hcs, htake⟩
 ·omega
 ·obtain ⟨m, hm⟩ : ∃ m, l.length = m + 1 := ⟨l.length - 1, by omega⟩
  have e1 : (l.eraseIdx k).length = m := by rw [List.length_eraseIdx, if_pos hk]; omega
  have e2 : (l.eraseIdx k).map (Value.int .i64) = (l.map (Value.int .i64)).take (k * 1) ++ (l.map (Value.int .i64)).drop ((k + 1) * 1) := by
   rw [List.eraseIdx_eq_take_drop_succ]; simp [List.map_take, List.map_drop]
  rw [hm] at hnc htake ⊢
  refine (del_int g cap k m cur _ w hg hcs htake h1 (by omega) (by omega) hnc hcm).mono ?_
  rintro e w' ⟨v', he, ⟨hr, _⟩, hgr, hf⟩
  exact ⟨v', he, by show World.ownsRow _ _ _ _ _ _ _; rw [e1, e2]; exact hr, hgr, hf⟩
end
section
open Go.RowKit Go.Shelf
attribute [local go_sem] Oper.semAt_some
theorem wpListIn_append_runI {F : Fence} {n : Nat} {P : Program} (w : World) {ops : Array Oper} {rest : List Oper} {o : Oper} {a : Act} {Q : Exit → Act → World → Prop}
  (hg : o.guard = none) (s x : Operand) (t : TypeId) (hop : o.op = Op.call { callee := Callee.builtin Builtin.append, args := #[s, x], argTypes := #[t, t] })
  (v u : Value) (hs : a.eval s = v) (hx : a.eval x = u) {v' : Value} {w' : World} (hr : (Builtin.append_ #[t, t] o.type #[v, u]).run P w = .ok v' w') (hK : wpListIn F n P ops Q rest (a.put o.dst v') w') :
  wpListIn F n P ops Q (o :: rest) a w := by
 refine wpListIn_plain hg fun K hK' => ?_
 unfold Oper.wpIn
 refine ⟨?_, ?_⟩
 ·simp [Oper.about, hop, resolve, Target.leads, Sem.run_pure]
 ·rw [Oper.semAt_plain F _ _ (by rw [hop]; intro c hc'; cases hc')]
  simp [execOp, hop, resolve, invoke, builtin, hs, hx, hr, Result.andThen]
  exact hK' _ _ hK
def BoxRow (N bx : Nat) (ty e : TypeId) (size n : Nat) (xs : List Value) (Fp : Nat → Prop) (W : World) : Prop :=
 ∃ v, W.heap[bx]? = some (.cells #[v] ty (0, 0)) ∧ W.ownsRow 0 e size v n xs ∧ Fp bx ∧ ∀ b, v.ownBlock = some b → Fp b ∧ N ≤ b
theorem BoxRow.stab {N M bx : Nat} {ty e : TypeId} {size n : Nat} {xs : List Value} (Fp : Nat → Prop) : StabF M Fp (BoxRow N bx ty e size n xs Fp) := by
 rintro A B ⟨v, h1, h2, h3, h4⟩ hk
 exact ⟨v, (hk.block (Array.getElem?_eq_some_iff.1 h1).1 (.inr h3)).trans h1, row_block h2 fun b hb => hk.block (row_lt h2 hb) (.inr (h4 b hb).1), h3, h4⟩
theorem setCell_box {w : World} {b : Nat} {v u : Value} {ty : TypeId} (hg : w.heap[b]? = some (.cells #[v] ty (0, 0))) : w.setCell ⟨b, 0, none⟩ u = w.setRow b #[u] := by
 unfold World.setCell World.setRow
 congr 1
 apply Array.ext_getElem?
 intro i
 rw [Array.getElem?_modify, Array.getElem?_modify]
 by_cases h : b = i
 ·subst h
  simp only [hg, Option.map_some]
  simp
 ·simp only [if_neg h]
theorem box_left {N bx : Nat} {ty e : TypeId} {size n : Nat} {xs : List Value} {Fp : Nat → Prop} {W Wa w' : World} {v v' : Value} (hb : W.heap[bx]? = some (.cells #[v] ty (0, 0))) (hf : Fp bx) (hv : ∀ b, v.ownBlock = some b → Fp b ∧ N ≤ b)
  (hF : ∀ b, Fp b → b < W.heap.size) (hN : N ≤ W.heap.size) (hty : ty ≠ e) (ha : Below W.heap.size W Wa) (hg : Wa.grownBy w' v.ownBlock) (hnew : ∀ b, v'.ownBlock = some b → v.ownBlock = some b ∨ Wa.heap.size ≤ b) (hvb : v.ownBlock ≠ some bx)
  (hrow : w'.ownsRow 0 e size v' n xs) : Left Fp W (BoxRow N bx ty e size n xs) (w'.setRow bx #[v']) := by
 have hlt : bx < W.heap.size := hF bx hf
 have hbw : w'.heap[bx]? = some (.cells #[v] ty (0, 0)) := (hg.block bx (Nat.lt_of_lt_of_le hlt ha.size) (fun h => hvb h.symm)).trans ((ha.block bx hlt).trans hb)
 have hv'b : v'.ownBlock ≠ some bx := row_not hrow hbw (fun cur h => by injection h with _ h _; exact hty h)
 refine ⟨fun b => Fp b ∨ v'.ownBlock = some b, ⟨⟨?_, ?_, ?_, ?_, fun b hb1 hnf => ?_⟩, fun b hb1 => ?_⟩, fun b hb1 => ?_, v', setRow_heap _ _ _ _ _ _ hbw, row_block hrow fun b h => setRow_other _ _ _ _ (fun e' => hv'b (by rw [h, e'])), .inl hf, fun b h => ⟨.inr h, ?_⟩⟩
 ·exact hg.os.trans ha.os
 ·exact hg.tape.trans ha.tape
 ·exact hg.output.trans ha.output
 ·simp; exact Nat.le_trans ha.size hg.size
 ·rw [setRow_other _ _ _ _ (fun e' => hnf (by rw [e']; exact hf))]
  exact (hg.block b (Nat.lt_of_lt_of_le hb1 ha.size) (fun h => hnf (hv b h.symm).1)).trans (ha.block b hb1)
 ·rcases hb1 with h | h
  ·exact .inl h
  ·rcases hnew b h with h | h
   ·exact .inl (hv b h).1
   ·have := ha.size; exact .inr (by omega)
 ·have h1 := ha.size
  have h2 := hg.size
  simp
  rcases hb1 with h | h
  ·have := hF b h; omega
  ·exact row_lt hrow h
 ·rcases hnew b h with h | h
  ·exact (hv b h).2
  ·have := ha.size; omega
theorem below_boxes (w : World) (t : Nat) (id lv : Int) : Calls Tryz.prog 49 #[.pointer (some ⟨t, 0, none⟩), .int .i64 id, .int .i64 lv] w fun e w' =>
  e = .returned (.func (.func 78) #[] #[.pointer (some ⟨w.heap.size, 0, none⟩), .pointer (some ⟨w.heap.size + 1, 0, none⟩), .pointer (some ⟨w.heap.size + 2, 0, none⟩)]) ∧
  Below w.heap.size w w' ∧ w'.heap.size = w.heap.size + 3 ∧ w'.heap[w.heap.size]? = some (.cells #[.pointer (some ⟨t, 0, none⟩)] 23 (0, 0)) ∧ w'.heap[w.heap.size + 1]? = some (.cells #[.int .i64 id] 3 (0, 0)) ∧ w'.heap[w.heap.size + 2]? = some (.cells #[.int .i64 lv] 3 (0, 0)) := by
 refine (below_calls w t id lv).mono ?_
 rintro e w4 ⟨rfl, hw4⟩
 refine ⟨rfl, ?_, ?_, ?_, ?_, ?_⟩
 ·rw [hw4]; exact (((Below.refl _ w).alloc (Nat.le_refl _) _).alloc (by simp) _).alloc (by simp; omega) _
 ·rw [hw4]; simp
 ·rw [hw4]
  refine (Below.heap_alloc _ _ _ (by simp; omega)).trans ((Below.heap_alloc _ _ _ (by simp)).trans (heap_alloc_new w _))
 ·rw [hw4]
  refine (Below.heap_alloc _ _ _ (by simp)).trans ?_
  have := heap_alloc_new (w.alloc (.cells #[.pointer (some ⟨t, 0, none⟩)] 23)) (.cells #[.int .i64 id] 3)
  simpa using this
 ·rw [hw4]
  have := heap_alloc_new ((w.alloc (.cells #[.pointer (some ⟨t, 0, none⟩)] 23)).alloc (.cells #[.int .i64 id] 3)) (.cells #[.int .i64 lv] 3)
  simpa using this
def IterB (t mb : Nat) (y : Lay) (g : Int → Option Ent) (root next : Int) (n : Nat) (id lv : Int) (xs : List (Int × Int)) : Prop :=
 ∀ (w' : World) (bt bi bl : Nat), TreeAt w' t mb y g root next n → w'.heap[bt]? = some (.cells #[.pointer (some ⟨t, 0, none⟩)] 23 (0, 0)) → w'.heap[bi]? = some (.cells #[.int .i64 id] 3 (0, 0)) → w'.heap[bl]? = some (.cells #[.int .i64 lv] 3 (0, 0)) →
  IterG Tryz.prog 78 #[.pointer (some ⟨bt, 0, none⟩), .pointer (some ⟨bi, 0, none⟩), .pointer (some ⟨bl, 0, none⟩)] encV xs (fun b => Mine t mb y g b ∨ b = bt ∨ b = bi ∨ b = bl) w'
theorem Order_g {t mb : Nat} {y : Lay} {g : Int → Option Ent} {root next : Int} {n : Nat} (xs : List (Int × Int)) (hxs : xs.length ≤ 1000000) (w : World) (ht : TreeAt w t mb y g root next n)
  (hit : IterB t mb y g root next n root 0 xs) :
  Calls Tryz.prog 20 #[.pointer (some ⟨t, 0, none⟩)] w fun e w' => ∃ v, e = .returned v ∧ intRow w' v (xs.map (·.1)) ∧ Below w.heap.size w w' ∧ ∀ b, v.ownBlock = some b → w.heap.size ≤ b := by
 have HIT := Lib.hid hit
 clear hit
 obtain ⟨W1, hW1⟩ : ∃ W1, Hid (W1 = w.alloc (.cells #[.slice none 0 0] 43)) := ⟨_, rfl⟩
 have hb1 : Below w.heap.size w W1 := by rw [hW1.out]; exact (Below.refl _ w).alloc (Nat.le_refl _) _
 have hx1 : W1.heap[w.heap.size]? = some (.cells #[.slice none 0 0] 43 (0, 0)) := by rw [hW1.out]; exact heap_alloc_new w _
 have hz1 : W1.heap.size = w.heap.size + 1 := by rw [hW1.out]; simp
 have ht1 : TreeAt W1 t mb y g root next n := ht.below hb1
 have c1 := ht1.c1
 rw [hW1.out] at c1
 obtain ⟨N, hN⟩ : ∃ N, Hid (w.heap.size = N) := ⟨_, rfl⟩
 have HB1 := Lib.hid hb1
 have HT1 := Lib.hid ht1
 have HX1 := Lib.hid hx1
 clear hb1 hx1 ht1
 refine callsIn_wide.1 (callsIn_of_wp_marks (n := 0) Tryz.func20 rfl trivial ?_ rfl)
 simp only [Tryz.ntmps20, List.size_toArray, List.length_cons, List.length_nil, Nat.reduceAdd, Nat.reduceSub, Array.replicate_succ, Array.replicate_zero, List.push_toArray, List.append_toArray, List.nil_append, List.cons_append]
 gi_wp2
 rw [← hW1.out]
 clear c1
 refine ⟨trivial, rfl, ?_⟩
 refine (callsIn_wide.2 (below_boxes W1 t root 0)).mono ?_
 rintro e w4 ⟨rfl, hb4, hz4, k1, k2, k3⟩
 have hit := HIT.out w4 _ _ _ (HT1.out.below hb4) k1 k2 k3
 have hbx4 : w4.heap[w.heap.size]? = some (.cells #[.slice none 0 0] 43 (0, 0)) := (hb4.block _ (by omega)).trans HX1.out
 have hb04 : Below w.heap.size w w4 := HB1.out.trans (hb4.mono (by omega))
 have HI := Lib.hid hit
 have HT4 := Lib.hid (HT1.out.below hb4)
 have HTW := Lib.hid ht
 have HX4 := Lib.hid hbx4
 have HB4 := Lib.hid hb04
 clear hit hbx4 hb04 hb4 k1 k2 k3 ht
 rw [hN.out] at HX4 HB4 hz1
 obtain ⟨Z, hZ⟩ : ∃ Z, Hid (W1.heap.size = Z) := ⟨_, rfl⟩
 rw [hZ.out] at HI hz4 hz1
 rw [hN.out, hZ.out]
 have HZ1 := Lib.hid hz1
 have HZ4 := Lib.hid hz4
 clear hz1 hz4
 gi_wp2
 refine range_law (gf := 78) (lb := #[.pointer (some ⟨Z, 0, none⟩), .pointer (some ⟨Z + 1, 0, none⟩), .pointer (some ⟨Z + 2, 0, none⟩)]) rfl (enters_of Tryz.func78 (by kernel_rfl) rfl)
  HI.out (fun b hb => ⟨?dlt, rfl⟩) (Nat.le_refl _) (fun _ => rfl) (fun b => b = N) (fun b hb => ⟨?clt, ?cnd⟩)
  (fun i Fq W' => BoxRow N N 43 3 1 i ((xs.take i).map fun x => Value.int .i64 x.1) Fq W')
  (fun c Fq W' => False)
  ?sI ?sX ?start
  (fun x => { tmps := #[Value.pointer (some ⟨t, 0, none⟩), undef, Value.slice none 0 0, Value.pointer (some ⟨N, 0, none⟩), Value.int .i64 x.1, Value.pointer (some ⟨t, 0, none⟩), Value.pointer (some ⟨t, 0, none⟩), Value.pointer (some ⟨t, 0, none⟩), Value.pointer (some ⟨t, 1, none⟩), Value.int .i64 root, Value.func (.func 78) #[] #[.pointer (some ⟨Z, 0, none⟩), .pointer (some ⟨Z + 1, 0, none⟩), .pointer (some ⟨Z + 2, 0, none⟩)], Value.int .i64 x.1, Value.int .i64 x.2, undef, undef, undef, undef, undef], defers := [] }) ?assign ?body ?done ?stop
 case dlt =>
  have h1 := HZ1.out
  have h4 := HZ4.out
  rcases hb with hb | rfl | rfl | rfl
  ·exact HT4.out.lt hb
  ·omega
  ·omega
  ·omega
 case clt => have h1 := HZ1.out; have h4 := HZ4.out; omega
 case cnd =>
  have h1 := HZ1.out
  have h4 := HZ4.out
  rintro (hm | h | h | h)
  ·have := HTW.out.lt hm; rw [hN.out] at this; omega
  ·omega
  ·omega
  ·omega
 case sI => intro i Fq; exact BoxRow.stab Fq
 case sX => intro c Fq A B h _; exact h
 case start => exact ⟨_, HX4.out, ⟨by simp, .inl ⟨rfl, rfl⟩⟩, rfl, fun b h => by simp [Value.ownBlock] at h⟩
 case assign =>
  intro l' x W' K hK
  dsimp only [encV]
  gi_wp2
  exact hK
 case stop => rintro c W5 ⟨Fq, _, _, hf, _⟩; exact hf.elim
 case body =>
  rintro l' i ⟨xi, xl⟩ Fq W' hx ⟨v, hb, hrow, hf, hv⟩ hW' hF
  have hil : i < xs.length := (List.getElem?_eq_some_iff.1 hx).1
  have fb := cell_row hb 0 _ rfl
  obtain ⟨Wa, hWa⟩ : ∃ Wa, Hid (Wa = W'.alloc (.cells #[.int .i64 xi] 3)) := ⟨_, rfl⟩
  have hba : Below W'.heap.size W' Wa := by rw [hWa.out]; exact (Below.refl _ W').alloc (Nat.le_refl _) _
  have hXa : Wa.heap[W'.heap.size]? = some (.cells #[.int .i64 xi] 3 (0, 0)) := by rw [hWa.out]; exact heap_alloc_new W' _
  have hrowa : Wa.ownsRow 0 3 1 v i ((xs.take i).map fun x => Value.int .i64 x.1) := row_block hrow fun b hb => hba.block b (row_lt hrow hb)
  obtain ⟨v', w', hr, hrow', hg', hf'⟩ := run_appendG (P := Tryz.prog) Wa 43 43 3 (.int .i64 0) 1 8 Tryz.underlying43 infoInt rfl (by decide) (by decide) v i _ hrowa ⟨W'.heap.size, 0, none⟩ 1 1 [.int .i64 xi] (by decide) rfl (by
   intro j u0 hj
   rw [add_zero_block]
   cases j with
   | zero => simp at hj; subst hj; exact cell_row hXa 0 _ rfl
   | succ j => simp at hj) (by intro u hu; simp at hu; subst hu; rfl) (by omega) (by decide)
  rw [hWa.out] at hr
  obtain ⟨pa, pn, pc, rfl⟩ : ∃ pa pn pc, v' = .slice pa pn pc := by
   rcases hrow'.2 with ⟨h, _⟩ | ⟨_, _, _, h, _⟩
   ·exact ⟨_, _, _, h⟩
   ·exact ⟨_, _, _, h⟩
  have hvb : v.ownBlock ≠ some N := row_not hrow hb (fun cur h => by injection h with _ h _; exact absurd h (by decide))
  have hfin := box_left (e := 3) (size := 1) (n := i + 1) (xs := (xs.take (i + 1)).map fun x => Value.int .i64 x.1) hb hf hv hF (by have := HB4.out.size; rw [hN.out] at this; omega) (by decide) hba hg' hf' hvb (by
   rw [List.take_add_one, hx]; simpa using hrow')
  have hbw : w'.heap[N]? = some (.cells #[v] 43 (0, 0)) := (hg'.block N (Nat.lt_of_lt_of_le (hF _ hf) hba.size) (fun h => hvb h.symm)).trans ((hba.block N (hF _ hf)).trans hb)
  have fw := cell_row hbw 0 _ rfl
  have HBW := Lib.hid hbw
  have fw2 := free_row hbw 0
  have HFIN := Lib.hid hfin
  clear hb hrow hf hv hba hXa hrowa hrow' hg' hf' hvb hfin hF hW' hx
  gi_wp2_with (gi_at_builtin; refine wpListIn_append_runI _ rfl _ _ 43 rfl v (.slice (some ⟨W'.heap.size, 0, none⟩) 1 1) (by simp [Act.eval]) (by simp [Act.eval]) hr ?_)
  rw [setCell_box HBW.out]
  exact HFIN.out
 case done =>
  rintro W5 ⟨Fq, r1, r2, ⟨v, hb, hrow, hf, hv⟩, qn⟩ hK5
  have fb := cell_row hb 0 _ rfl
  have HR1 := Lib.hid r1
  have HROW := Lib.hid hrow
  have HV := Lib.hid hv
  have HBX := Lib.hid hb
  have hne : Hid (v.ownBlock ≠ some w4.heap.size) := fun h => qn (hv _ h).1
  clear r1 r2 hb hrow hf hv qn
  gi_wp2
  have HK5 := Lib.hid hK5
  refine marks_leave [w4.heap.size] W5 (by simp) (fun b hb => by simp at hb; subst hb; exact HK5.out) (fun w' hw' => ⟨v, results_tmp Tryz.results20 _ _ _, v, rfl, ?_, ?_, ?_⟩)
  ·have h1 := HROW.out
   rw [List.take_length] at h1
   have h2 := row_block (w' := w') h1 fun b hb => hw'.block b (row_lt h1 hb) (fun hm => by simp at hm; exact hne.out (by rw [hb, hm]))
   show w'.ownsRow 0 3 1 v (xs.map (·.1)).length ((xs.map (·.1)).map (Value.int .i64))
   rw [List.length_map, List.map_map]
   exact h2
  ·have h1 := HR1.out.1
   have h4 := HB4.out
   have hs := h4.size
   have hn := hN.out
   rw [hN.out]
   refine ⟨hw'.os.trans (h1.os.trans h4.os), hw'.tape.trans (h1.tape.trans h4.tape), hw'.output.trans (h1.output.trans h4.output), ?_, fun b hb => ?_⟩
   ·have := hw'.size; have := h1.size; omega
   ·exact (hw'.block b (Nat.lt_of_lt_of_le (show b < w4.heap.size by omega) h1.size) (fun hm => by simp at hm; omega)).trans ((h1.block b (by omega) (fun h => by omega)).trans (h4.block b hb))
  ·intro b h; have := (HV.out b h).2; rw [hN.out]; exact this
end
section
open Go.RowKit Go.Shelf
def TP (t mb : Nat) (y : Lay) (g : Int → Option Ent) (w : World) (g' : Int → Option Ent) (root' next' : Int) (n' : Nat) (w' : World) : Prop :=
 ∃ mb' y', TreeAt w' t mb' y' g' root' next' n' ∧ Grows (Mine t mb y g) (Mine t mb' y' g') w w'
def textE (s : List UInt8) : Int := if countL s < 0 then 64 else if 1500 < s.length then 67 else 0
theorem text_any (s : ByteArray) (w : World) (hs : s.size ≤ maxLen) (r : Int) (hr : Hid (textE s.data.toList = r)) :
  Calls Tryz.prog 71 #[.string s] w (Ret w (.int .i64 r)) := by
 have hr' := hr.out
 unfold textE at hr'
 rw [size_toList] at hr'
 obtain ⟨k, hk⟩ : ∃ k, Hid (countL s.data.toList = k) := ⟨_, rfl⟩
 rw [hk.out] at hr'
 by_cases h1 : k < 0
 ·rw [if_pos h1] at hr'
  subst hr'
  go_enter Tryz.func71, Tryz.ntmps71
  go_wp2_with (go_at_call 98; refine (Count_as s _ hs k hk).mono ?_; rintro e w2 ⟨rfl, hb2⟩)
  go_ret
  exact ⟨rfl, hb2⟩
 ·rw [if_neg h1] at hr'
  have h1' : 0 ≤ k := by omega
  by_cases h2 : 1500 < s.size
  ·rw [if_pos h2] at hr'
   subst hr'
   have h2' : (1500 : Int) < (s.size : Int) := by omega
   go_enter Tryz.func71, Tryz.ntmps71
   go_wp2_with (go_at_call 98; refine (Count_as s _ hs k hk).mono ?_; rintro e w2 ⟨rfl, hb2⟩)
   go_ret
   exact ⟨rfl, hb2⟩
  ·rw [if_neg h2] at hr'
   subst hr'
   have h2' : (s.size : Int) ≤ 1500 := by omega
   go_enter Tryz.func71, Tryz.ntmps71
   go_wp2_with (go_at_call 98; refine (Count_as s _ hs k hk).mono ?_; rintro e w2 ⟨rfl, hb2⟩)
   go_ret
   exact ⟨rfl, hb2⟩
def Ent.setText (e : Ent) (s : List UInt8) : Ent := { e with d := { e.d with text := s } }
def setTextG (g : Int → Option Ent) (id : Int) (s : List UInt8) : Int × (Int → Option Ent) := match g id with
 | none => (60, g)
 | some e => if e.d.kind ≠ 2 then (68, g) else if textE s ≠ 0 then (textE s, g) else (0, fset g id (some (e.setText s)))
section
variable {w : World} {t mb : Nat} {y : Lay} {g : Int → Option Ent} {root next : Int} {n : Nat}
theorem node_cells {w : World} {q i : Nat} {id : Int} {e : Ent} {a k v : Value} (h : w.heap[q]? = some (.cells (nodeC id e a k) 92 (0, 0))) : (w.setCell ⟨q, i, none⟩ v).heap[q]? = some (.cells ((nodeC id e a k).setIfInBounds i v) 92 (0, 0)) := Lib.heap_setCell_same (i := i) h v
theorem SetText_any (h : TreeAt w t mb y g root next n) {id : Int} (hw : wfI id) (s : List UInt8) (hs : s.length ≤ maxLen) :
  Calls Tryz.prog 44 #[.pointer (some ⟨t, 0, none⟩), .int .i64 id, strV s] w fun e w' => e = .returned (.int .i64 (setTextG g id s).1) ∧ TP t mb y g w (setTextG g id s).2 root next n w' := by
 have c0 := h.c0
 have stay : ∀ w', Below w.heap.size w w' → TP t mb y g w g root next n w' := fun w' hb => ⟨mb, y, h.below hb, Grows.of_below hb⟩
 have STAY := Lib.hid stay
 clear stay
 unfold strV
 cases he : g id with
 | none =>
  have hl := (h.look_no he hw).1
  have hr : setTextG g id s = (60, g) := by unfold setTextG; rw [he]
  rw [hr]
  clear h
  go_enter Tryz.func44, Tryz.ntmps44
  go_wp2_with fail
  go_ret
  exact ⟨rfl, STAY.out _ (Below.refl _ _)⟩
 | some e =>
  have hl := (h.look_yes he hw).1
  have c2 := h.n2 he
  by_cases hk : e.d.kind = 2
  ·obtain ⟨r, hr⟩ : ∃ r, Hid (textE s = r) := ⟨_, rfl⟩
   rw [hk] at c2
   have hsz : (⟨s.toArray⟩ : ByteArray).size ≤ maxLen := hs
   have hr2 : Hid (textE (⟨s.toArray⟩ : ByteArray).data.toList = r) := hr
   by_cases hr0 : r = 0
   ·subst hr0
    have hg : setTextG g id s = (0, fset g id (some (e.setText s))) := by unfold setTextG; rw [he]; simp [hk, hr.out]
    rw [hg]
    have HH := Lib.hid h
    have HE := Lib.hid he
    clear h he hg
    go_enter Tryz.func44, Tryz.ntmps44
    go_wp2_with (go_at_call 71; refine (text_any ⟨s.toArray⟩ _ hsz 0 hr2).mono ?_; rintro e w2 ⟨rfl, hb2⟩; have f5 := (HH.out.below hb2).n5 HE.out; have f6 := free_row ((HH.out.below hb2).node _ _ HE.out) 5)
    go_ret
    have h2 := HH.out.below hb2
    have hnd := h2.node _ _ HE.out
    have hat := h2.att _ _ HE.out
    have hki := h2.kid _ _ HE.out
    have hno := h2.nb_not HE.out id e HE.out
    obtain ⟨q1, q2⟩ := h2.turn_node HE.out (e.setText s) (y.att id) (y.kid id) (w' := w2.setCell ⟨y.nb id, 5, none⟩ (.string ⟨s.toArray⟩))
     (fun b hb hne _ _ => Below.heap_setCell _ _ _ _ hne) (by rw [node_cells hnd]; rfl)
     (row_block hat fun b hb => Below.heap_setCell _ _ _ _ (fun e' => hno.1 (by rw [hb]; exact congrArg some e')))
     (row_block hki fun b hb => Below.heap_setCell _ _ _ _ (fun e' => hno.2 (by rw [hb]; exact congrArg some e'))) (fun b hb => .inl hb) (fun b hb => .inl hb)
    refine ⟨rfl, mb, _, q1, (Grows.of_below hb2).trans ⟨⟨rfl, rfl, rfl, by simp, fun b hb hm => Below.heap_setCell _ _ _ _ (fun e' => hm (.inr (.inr ⟨id, e, HE.out, .inl e'⟩)))⟩, q2⟩⟩
   ·have hg : setTextG g id s = (r, g) := by unfold setTextG; rw [he]; simp [hk, hr.out, hr0]
    rw [hg]
    have hr1 : (r != 0) = true := by simpa using hr0
    clear h he hg
    go_enter Tryz.func44, Tryz.ntmps44
    go_wp2_with fail
    refine (text_any ⟨s.toArray⟩ _ hsz r hr2).mono ?_
    rintro e w2 ⟨rfl, hb2⟩
    go_wp2_with fail
    refine (text_any ⟨s.toArray⟩ _ hsz r hr2).mono ?_
    rintro e w3 ⟨rfl, hb3⟩
    go_wp2_with fail
    go_ret
    exact ⟨rfl, STAY.out _ (hb2.trans (hb3.mono hb2.size))⟩
  ·have hg : setTextG g id s = (68, g) := by unfold setTextG; rw [he]; simp [hk]
   rw [hg]
   have hk1 : (e.d.kind != 2) = true := by simpa using hk
   clear h he hg
   go_enter Tryz.func44, Tryz.ntmps44
   go_wp2_with fail
   go_ret
   exact ⟨rfl, STAY.out _ (Below.refl _ _)⟩
end
end
section
open Go.RowKit Go.Shelf
section
variable {w : World} {t mb : Nat} {y : Lay} {g : Int → Option Ent} {root next : Int} {n : Nat}
def layK (y : Lay) (p : Int) (v : Value) : Lay := { y with att := fset y.att p (y.att p), kid := fset y.kid p v }
def layA (y : Lay) (p : Int) (v : Value) : Lay := { y with att := fset y.att p v, kid := fset y.kid p (y.kid p) }
theorem TreeAt.set_kids (h : TreeAt w t mb y g root next n) {p : Int} {e : Ent} (he : g p = some e) {w1 : World} {v' : Value} {l' : List Int} (hrow : intRow w1 v' l') (hg : w.grownBy w1 (y.kid p).ownBlock)
  (hf : ∀ b, v'.ownBlock = some b → (y.kid p).ownBlock = some b ∨ w.heap.size ≤ b) :
  w1.heap[y.nb p]? = some (.cells (nodeC p e (y.att p) (y.kid p)) 92 (0, 0)) ∧
  TreeAt (w1.setCell ⟨y.nb p, 7, none⟩ v') t mb (layK y p v') (fset g p (some { e with kids := l' })) root next n ∧
  Grows (Mine t mb y g) (Mine t mb (layK y p v') (fset g p (some { e with kids := l' }))) w (w1.setCell ⟨y.nb p, 7, none⟩ v') := by
 have hlt := h.lt (.inr (.inr ⟨p, e, he, .inl rfl⟩))
 have hno := h.nb_not he p e he
 have hnd : w1.heap[y.nb p]? = some (.cells (nodeC p e (y.att p) (y.kid p)) 92 (0, 0)) := (hg.block _ hlt (fun h => hno.2 h.symm)).trans (h.node p e he)
 have hat : attRow w1 (y.att p) e.d.attrs := row_block (h.att p e he) fun b hb => hg.block b (row_lt (h.att p e he) hb) (fun h' => h.rows_not p e p e he he b hb h'.symm)
 have hnv : v'.ownBlock ≠ some (y.nb p) := row_not hrow hnd (fun cur hc => by injection hc with _ hc; revert hc; decide)
 have hso : ∀ b, b ≠ y.nb p → (w1.setCell ⟨y.nb p, 7, none⟩ v').heap[b]? = w1.heap[b]? := fun b hne => Below.heap_setCell _ _ _ _ hne
 obtain ⟨q1, q2⟩ := h.turn_node he { e with kids := l' } (y.att p) v' (w' := w1.setCell ⟨y.nb p, 7, none⟩ v')
  (fun b hb hne _ hk => (hso b hne).trans (hg.block b hb (fun h' => hk h'.symm))) (by rw [node_cells hnd]; rfl)
  (row_block hat fun b hb => hso b (fun e' => hno.1 (by rw [hb, e']))) (row_block hrow fun b hb => hso b (fun e' => hnv (by rw [hb, e']))) (fun b hb => .inl hb) hf
 refine ⟨hnd, q1, ⟨hg.os, hg.tape, hg.output, by simp; exact hg.size, fun b hb hm => ?_⟩, q2⟩
 rw [hso b (fun e' => hm (.inr (.inr ⟨p, e, he, .inl e'⟩)))]
 exact hg.block b hb (fun h' => hm (.inr (.inr ⟨p, e, he, .inr (.inr h'.symm)⟩)))
theorem TreeAt.set_attrs (h : TreeAt w t mb y g root next n) {p : Int} {e : Ent} (he : g p = some e) {w1 : World} {v' : Value} {l' : List AttrD} (hrow : attRow w1 v' l') (hg : w.grownBy w1 (y.att p).ownBlock)
  (hf : ∀ b, v'.ownBlock = some b → (y.att p).ownBlock = some b ∨ w.heap.size ≤ b) :
  w1.heap[y.nb p]? = some (.cells (nodeC p e (y.att p) (y.kid p)) 92 (0, 0)) ∧
  TreeAt (w1.setCell ⟨y.nb p, 6, none⟩ v') t mb (layA y p v') (fset g p (some { e with d := { e.d with attrs := l' } })) root next n ∧
  Grows (Mine t mb y g) (Mine t mb (layA y p v') (fset g p (some { e with d := { e.d with attrs := l' } }))) w (w1.setCell ⟨y.nb p, 6, none⟩ v') := by
 have hlt := h.lt (.inr (.inr ⟨p, e, he, .inl rfl⟩))
 have hno := h.nb_not he p e he
 have hnd : w1.heap[y.nb p]? = some (.cells (nodeC p e (y.att p) (y.kid p)) 92 (0, 0)) := (hg.block _ hlt (fun h => hno.1 h.symm)).trans (h.node p e he)
 have hki : intRow w1 (y.kid p) e.kids := row_block (h.kid p e he) fun b hb => hg.block b (row_lt (h.kid p e he) hb) (fun h' => h.rows_not p e p e he he b h'.symm hb)
 have hnv : v'.ownBlock ≠ some (y.nb p) := row_not hrow hnd (fun cur hc => by injection hc with _ hc; revert hc; decide)
 have hso : ∀ b, b ≠ y.nb p → (w1.setCell ⟨y.nb p, 6, none⟩ v').heap[b]? = w1.heap[b]? := fun b hne => Below.heap_setCell _ _ _ _ hne
 obtain ⟨q1, q2⟩ := h.turn_node he { e with d := { e.d with attrs := l' } } v' (y.kid p) (w' := w1.setCell ⟨y.nb p, 6, none⟩ v')
  (fun b hb hne hk _ => (hso b hne).trans (hg.block b hb (fun h' => hk h'.symm))) (by rw [node_cells hnd]; rfl)
  (row_block hrow fun b hb => hso b (fun e' => hnv (by rw [hb, e']))) (row_block hki fun b hb => hso b (fun e' => hno.2 (by rw [hb, e']))) hf (fun b hb => .inl hb)
 refine ⟨hnd, q1, ⟨hg.os, hg.tape, hg.output, by simp; exact hg.size, fun b hb hm => ?_⟩, q2⟩
 rw [hso b (fun e' => hm (.inr (.inr ⟨p, e, he, .inl e'⟩)))]
 exact hg.block b hb (fun h' => hm (.inr (.inr ⟨p, e, he, .inr (.inl h'.symm)⟩)))
theorem Index_int (v : Value) (l : List Int) (w : World) (hrow : intRow w v l) (hn : l.length ≤ 1000000) (k : Nat) (x : Int) (hx : l[k]? = some x) (hmin : ∀ j, j < k → l[j]? ≠ some x) :
  Calls Tryz.prog 79 #[v, .int .i64 x] w fun e w' => e = .returned (.int .i64 (k : Int)) ∧ w = w' := by
 have hkl : k < l.length := (List.getElem?_eq_some_iff.1 hx).1
 obtain ⟨A, c, hv, _, _, hA0, hA1⟩ := row_shape hrow
 unfold intRow at hrow
 rw [hv] at hrow
 subst hv
 cases A with
 | none => have := (hA0 rfl).1; omega
 | some ad =>
  obtain ⟨b, rfl, _⟩ := hA1 ad rfl
  have HROW := Lib.hid hrow
  have HMIN := Lib.hid hmin
  have HX := Lib.hid hx
  obtain ⟨m, hm⟩ : ∃ m, Hid (l.length = m) := ⟨_, rfl⟩
  rw [hm.out] at hn hkl
  rw [hm.out]
  clear hrow hmin hx hA0 hA1
  go_enter Tryz.func79, Tryz.ntmps79
  go_wp2_with fail
  go_loop [8] (fun i => ∃ (j : Nat), i = .int .i64 (j : Int) ∧ j ≤ k) (fun i => k + 1 - (intOf i).toNat)
  case atStart => exact ⟨0, rfl, Nat.zero_le _⟩
  case round =>
   obtain ⟨j, rfl, hjk⟩ := hrel
   obtain ⟨z, hz⟩ : ∃ z, l[j]? = some z := ⟨l[j]'(by rw [hm.out]; omega), List.getElem?_eq_getElem (by rw [hm.out]; omega)⟩
   have cx := own_cell HROW.out j (.int .i64 z) (by rw [List.getElem?_map, hz]; rfl)
   have j0 : (0 : Int) ≤ (j : Int) := by omega
   have j1 : (j : Int) < (m : Int) := by omega
   by_cases hjx : j = k
   ·subst hjx
    have hzx : z = x := by rw [HX.out] at hz; injection hz with hz; exact hz.symm
    subst hzx
    clear hz
    go_wp2_with fail
    go_ret
    exact ⟨rfl, rfl⟩
   ·have hzx : (x == z) = false := by
     have := HMIN.out j (by omega)
     rw [hz] at this
     simp only [beq_eq_false_iff_ne]
     intro e
     exact this (by rw [e])
    clear hz
    go_wp2_with fail
    go_round
    case rel => exact ⟨j + 1, by go_num, by omega⟩
    case measure => simp [intOf]; omega
end
end
section
open Go.RowKit Go.Shelf
theorem SameIds_any (v1 v2 : Value) (l1 l2 : List Int) (w : World) (h1 : intRow w v1 l1) (h2 : intRow w v2 l2) (r : Bool) (hr : Hid (decide (l1 = l2) = r)) :
  Calls Tryz.prog 37 #[v1, v2] w (Ret w (.bool r)) := by
 obtain ⟨A1, c1, rfl, hc1, hm1, hn1, hs1⟩ := row_shape h1
 obtain ⟨A2, c2, rfl, hc2, hm2, hn2, hs2⟩ := row_shape h2
 have hb1 : l1.length ≤ 9223372036854775807 := by unfold maxLen at hm1; omega
 have hb2 : l2.length ≤ 9223372036854775807 := by unfold maxLen at hm2; omega
 have H1 := Lib.hid h1
 have H2 := Lib.hid h2
 have HS1 := Lib.hid hs1
 have HS2 := Lib.hid hs2
 have HN1 := Lib.hid hn1
 have HN2 := Lib.hid hn2
 clear h1 h2 hs1 hs2 hn1 hn2 hc1 hc2 hm1 hm2
 have hi1 : (l1.length : Int) ≤ 9223372036854775807 := by omega
 have hi2 : (l2.length : Int) ≤ 9223372036854775807 := by omega
 by_cases hlen : l1.length = l2.length
 ·have hl : ((l1.length : Int) != (l2.length : Int)) = false := by simp [hlen]
  have hl' : (l1.length != l2.length) = false := by simp [hlen]
  obtain ⟨n, hn⟩ : ∃ n, Hid (l2.length = n) := ⟨_, rfl⟩
  have hn1 : Hid (l1.length = n) := by show _ = _; rw [← hn.out]; exact hlen
  rw [hn.out, hn1.out] at hl hl'
  rw [hn1.out] at hi1
  rw [hn.out, hn1.out]
  clear hlen hb1 hb2 hi2
  go_enter Tryz.func37, Tryz.ntmps37
  go_wp2_with fail
  go_loopw [5] (fun i wr => ∃ (k : Nat), k ≤ n ∧ i = .int .i64 k ∧ Hid (l1.take k = l2.take k) ∧ Below w.heap.size w wr) (fun i _ => n - (intOf i).toNat)
  case atStart => exact ⟨0, Nat.zero_le _, rfl, rfl, Below.refl _ _⟩
  case round =>
   obtain ⟨k, hk, rfl, htk, hbel⟩ := hrel
   have hzr := hbel.size
   by_cases hlt : k < n
   ·obtain ⟨x1, hx1⟩ : ∃ x, Hid (l1[k]? = some x) := ⟨l1[k]'(by have := hn1.out; omega), List.getElem?_eq_getElem _⟩
    obtain ⟨x2, hx2⟩ : ∃ x, Hid (l2[k]? = some x) := ⟨l2[k]'(by have := hn.out; omega), List.getElem?_eq_getElem _⟩
    have hR1 : intRow wr (.slice A1 l1.length c1) l1 := row_block H1.out fun b hb => hbel.block b (row_lt H1.out hb)
    have hR2 : intRow wr (.slice A2 l2.length c2) l2 := row_block H2.out fun b hb => hbel.block b (row_lt H2.out hb)
    cases A1 with
    | none => exfalso; have := (HN1.out rfl).1; have := hn1.out; omega
    | some a1 =>
     cases A2 with
     | none => exfalso; have := (HN2.out rfl).1; have := hn.out; omega
     | some a2 =>
      obtain ⟨b1, rfl, _⟩ := HS1.out a1 rfl
      obtain ⟨b2, rfl, _⟩ := HS2.out a2 rfl
      have e1 := own_cell hR1 k (.int .i64 x1) (by rw [List.getElem?_map, hx1.out]; rfl)
      have e2 := own_cell hR2 k (.int .i64 x2) (by rw [List.getElem?_map, hx2.out]; rfl)
      have i0 : (0 : Int) ≤ (k : Int) := by omega
      have i1 : (k : Int) < n := by omega
      clear hR1 hR2
      by_cases hxx : x1 = x2
      ·have hd : (x1 != x2) = false := by simp [hxx]
       have HXX := Lib.hid hxx
       clear hxx
       go_wp2_with fail
       go_quiet (fail)
       go_wp2_with fail
       go_roundw
       case rel =>
        refine ⟨k + 1, by omega, by go_num, ?_, hbel.trans ⟨rfl, rfl, rfl, Nat.le_refl _, fun _ _ => rfl⟩⟩
        show _ = _
        rw [List.take_add_one, List.take_add_one, htk.out, hx1.out, hx2.out, HXX.out]
       case measure => simp [intOf]; omega
      ·have hd : (x1 != x2) = true := by simpa using hxx
       have hr' : Hid (r = false) := by
        show _ = _
        rw [← hr.out]
        refine decide_eq_false fun h => hxx ?_
        have := hx1.out
        rw [h, hx2.out] at this
        injection this with this
        exact this.symm
       clear hxx
       go_wp2_with fail
       go_quiet (fail)
       go_wp2_with fail
       go_ret
       exact ⟨by rw [hr'.out]; rfl, hbel.trans ⟨rfl, rfl, rfl, Nat.le_refl _, fun _ _ => rfl⟩⟩
   ·have hlt' : ¬ (k : Int) < n := by omega
    have hr' : Hid (r = true) := by
     show _ = _
     rw [← hr.out]
     refine decide_eq_true ?_
     have := htk.out
     rw [List.take_of_length_le (by have := hn1.out; omega), List.take_of_length_le (by have := hn.out; omega)] at this
     exact this
    go_wp2_with fail
    go_ret
    exact ⟨by rw [hr'.out]; rfl, hbel⟩
 ·have hl : ((l1.length : Int) != (l2.length : Int)) = true := by simp; omega
  have hl' : (l1.length != l2.length) = true := by simp; omega
  have hr' : Hid (r = false) := by
   show _ = _
   rw [← hr.out]
   exact decide_eq_false fun h => hlen (by rw [h])
  clear hlen
  go_enter Tryz.func37, Tryz.ntmps37
  go_wp2_with fail
  go_ret
  exact ⟨by rw [hr'.out]; rfl, Below.refl _ _⟩
end
section
open Go.RowKit Go.Shelf
theorem wpList_append_runI {P : Program} (w : World) {ops : Array Oper} {rest : List Oper} {o : Oper} {a : Act} {Q : Exit → Act → World → Prop}
  (hg : o.guard = none) (s x : Operand) (t : TypeId) (hop : o.op = Op.call { callee := Callee.builtin Builtin.append, args := #[s, x], argTypes := #[t, t] })
  (v u : Value) (hs : a.eval s = v) (hx : a.eval x = u) {v' : Value} {w' : World} (hr : (Builtin.append_ #[t, t] o.type #[v, u]).run P w = .ok v' w') (hK : wpList P ops Q rest (a.put o.dst v') w') :
  wpList P ops Q (o :: rest) a w := by
 refine wpList_plain hg fun _ hK' => ?_
 unfold Oper.wp execOp
 simp only [hop, resolve, invoke, builtin, Sem.run_bind, Sem.run_pure, Result.andThen_ok, List.map_toArray, List.map_cons, List.map_nil, hs, hx, hr]
 exact hK' _ _ hK
def idsFrom (next : Int) (m : Nat) : List Int := (List.range m).map fun (i : Nat) => next + (i : Int)
theorem idsFrom_succ (next : Int) (m : Nat) : idsFrom next (m + 1) = idsFrom next m ++ [next + (m : Int)] := by simp [idsFrom, List.range_succ]
theorem idsFrom_length (next : Int) (m : Nat) : (idsFrom next m).length = m := by simp [idsFrom]
section
variable {w : World} {t mb : Nat} {y : Lay} {g : Int → Option Ent} {root next : Int} {n : Nat}
theorem run_append_int {W : World} {v : Value} {l : List Int} (hrow : intRow W v l) (hl : l.length ≤ 1000000) (x : Int) :
  ∃ pa pn pc w', (Builtin.append_ #[43, 43] 43 #[v, .slice (some ⟨W.heap.size, 0, none⟩) 1 1]).run Tryz.prog (W.alloc (.cells #[.int .i64 x] 3)) = .ok (.slice pa pn pc) w' ∧ pn = l.length + 1 ∧
   intRow w' (.slice pa pn pc) (l ++ [x]) ∧ W.grownBy w' v.ownBlock ∧ (∀ b, (Value.slice pa pn pc).ownBlock = some b → v.ownBlock = some b ∨ W.heap.size ≤ b) := by
 obtain ⟨Wa, hWa⟩ : ∃ Wa, Wa = W.alloc (.cells #[.int .i64 x] 3) := ⟨_, rfl⟩
 have hba : Below W.heap.size W Wa := by rw [hWa]; exact (Below.refl _ W).alloc (Nat.le_refl _) _
 have hXa : Wa.heap[W.heap.size]? = some (.cells #[.int .i64 x] 3 (0, 0)) := by rw [hWa]; exact heap_alloc_new W _
 have hrowa : intRow Wa v l := row_block hrow fun b hb => hba.block b (row_lt hrow hb)
 obtain ⟨v', w', hr, hrow', hg', hf'⟩ := run_appendG (P := Tryz.prog) Wa 43 43 3 (.int .i64 0) 1 8 Tryz.underlying43 infoInt rfl (by decide) (by decide) v _ _ hrowa ⟨W.heap.size, 0, none⟩ 1 1 [.int .i64 x] (by decide) rfl (by
  intro j u0 hj
  rw [add_zero_block]
  cases j with
  | zero => simp at hj; subst hj; exact cell_row hXa 0 _ rfl
  | succ j => simp at hj) (by intro u hu; simp at hu; subst hu; rfl) (by omega) (by decide)
 obtain ⟨pa, pc, rfl⟩ : ∃ pa pc, v' = .slice pa (l.length + 1) pc := by
  obtain ⟨A, c, hv, _⟩ := row_shape hrow'
  exact ⟨A, c, hv⟩
 rw [hWa] at hr
 refine ⟨pa, _, pc, w', hr, rfl, ?_, ⟨hg'.os.trans hba.os, hg'.tape.trans hba.tape, hg'.output.trans hba.output, Nat.le_trans hba.size hg'.size, fun b hb hne => (hg'.block b (Nat.lt_of_lt_of_le hb hba.size) hne).trans (hba.block b hb)⟩, fun b hb => ?_⟩
 ·show w'.ownsRow 0 3 1 _ (l ++ [x]).length ((l ++ [x]).map (Value.int .i64))
  rw [List.length_append, List.map_append]
  exact hrow'
 ·rcases hf' b hb with h | h
  ·exact .inl h
  ·have := hba.size; exact .inr (by omega)
theorem given_any (h : TreeAt w t mb y g root next n) (m : Nat) (hm : m ≤ 100000) (hn0 : 0 ≤ next) (hn1 : next ≤ 4294967296) :
  Calls Tryz.prog 47 #[.pointer (some ⟨t, 0, none⟩), .int .i64 m] w fun e w' => ∃ A c, e = .returned (.slice A m c) ∧ intRow w' (.slice A m c) (idsFrom next m) ∧ (∀ b, (Value.slice A m c).ownBlock = some b → w.heap.size ≤ b) ∧
   TreeAt w' t mb y g root (next + (m : Int)) n ∧ Turn (fun b => b = t) w w' := by
 have HH := Lib.hid h
 clear h
 go_enter Tryz.func47, Tryz.ntmps47
 go_wp2_with fail
 go_loopw [5, 7] (fun s i wr => ∃ (j : Nat) (A : Option Addr) (c : Nat), s = .slice A j c ∧ i = .int .i64 (j : Int) ∧ j ≤ m ∧ Hid (intRow wr (.slice A j c) (idsFrom next j)) ∧ Hid (∀ b, (Value.slice A j c).ownBlock = some b → w.heap.size ≤ b) ∧
  Hid (TreeAt wr t mb y g root (next + (j : Int)) n) ∧ Hid (Turn (fun b => b = t) w wr)) (fun _ i _ => m - (intOf i).toNat)
 case atStart => exact ⟨0, none, 0, rfl, rfl, Nat.zero_le _, ⟨by simp [idsFrom], .inl ⟨rfl, rfl⟩⟩, fun b hb => by simp [Value.ownBlock] at hb, by show TreeAt _ _ _ _ _ _ _ _; simpa using HH.out, Turn.refl _ _⟩
 case round =>
  obtain ⟨j, A, c, rfl, rfl, hj, hrow, hfr, ht, htu⟩ := hrel
  have j0 : (0 : Int) ≤ (j : Int) := by omega
  by_cases hjm : j < m
  ·have hjm' : (j : Int) < (m : Int) := by omega
   have c2 := ht.out.c2
   obtain ⟨N, hN⟩ : ∃ N, Hid (next + (j : Int) = N) := ⟨_, rfl⟩
   rw [hN.out] at c2
   have hNb : 0 ≤ N ∧ N ≤ 5000000000 := by rw [← hN.out]; omega
   obtain ⟨hNb0, hNb1⟩ := hNb
   obtain ⟨pa, pn, pc, w2, hr, hpn, hrow2, hg2, hf2⟩ := run_append_int hrow.out (by rw [idsFrom_length]; omega) N
   rw [idsFrom_length] at hpn
   subst hpn
   have hlow : ∀ b, Mine t mb y g b → (Value.slice A j c).ownBlock ≠ some b := fun b hb h' => by
    have := hfr.out b h'
    have := HH.out.lt hb
    omega
   have ht2 : TreeAt w2 t mb y g root (next + (j : Int)) n := ht.out.keep fun b hb => hg2.block b (ht.out.lt hb) (fun h' => hlow b hb h'.symm)
   have c22 := ht2.c2
   rw [hN.out] at c22
   have f22 := free_row ht2.tree 2
   have hszr : w.heap.size ≤ wr.heap.size := htu.out.size
   have hrow3 : intRow (w2.setCell ⟨t, 2, none⟩ (.int .i64 (N + 1))) (.slice pa (j + 1) pc) (idsFrom next (j + 1)) := by
    rw [idsFrom_succ, hN.out]
    refine row_block hrow2 fun b hb => Below.heap_setCell _ _ _ _ (fun e' => ?_)
    have htl := HH.out.lt (.inl rfl : Mine t mb y g t)
    rcases hf2 b hb with h' | h'
    ·exact hlow t (.inl rfl) (by rw [h', e'])
    ·have e2 : b = t := e'; omega
   have hfr3 : ∀ b, (Value.slice pa (j + 1) pc).ownBlock = some b → w.heap.size ≤ b := fun b hb => by
    rcases hf2 b hb with h' | h'
    ·exact hfr.out b h'
    ·omega
   have ht3 : TreeAt (w2.setCell ⟨t, 2, none⟩ (.int .i64 (N + 1))) t mb y g root (next + ((j + 1 : Nat) : Int)) n := by
    have := ht2.set_next (N + 1)
    rw [show next + ((j + 1 : Nat) : Int) = N + 1 by rw [← hN.out]; omega]
    exact this
   have htu3 : Turn (fun b => b = t) w (w2.setCell ⟨t, 2, none⟩ (.int .i64 (N + 1))) := by
    refine ⟨hg2.os.trans htu.out.os, hg2.tape.trans htu.out.tape, hg2.output.trans htu.out.output, by simp; exact Nat.le_trans htu.out.size hg2.size, fun b hb hne => ?_⟩
    rw [Below.heap_setCell _ _ _ _ hne]
    exact (hg2.block b (Nat.lt_of_lt_of_le hb htu.out.size) (fun h' => by have := hfr.out b h'.symm; omega)).trans (htu.out.block b hb hne)
   have HR3 := Lib.hid hrow3
   have HF3 := Lib.hid hfr3
   have HT3 := Lib.hid ht3
   have HU3 := Lib.hid htu3
   clear hrow hfr ht htu hrow2 hg2 hf2 hlow ht2 hrow3 hfr3 ht3 htu3
   go_wp2_with (at_builtin; refine wpList_append_runI _ rfl _ _ 43 rfl (.slice A j c) (.slice (some ⟨wr.heap.size, 0, none⟩) 1 1) (by simp [Act.eval]) (by simp [Act.eval]) hr ?_)
   go_roundw
   case rel => exact ⟨j + 1, pa, pc, rfl, by go_num, by omega, HR3, HF3, HT3, HU3⟩
   case measure => simp [intOf]; omega
  ·have hjm' : j = m := by omega
   subst hjm'
   go_wp2_with fail
   go_ret
   exact ⟨A, c, rfl, hrow.out, hfr.out, ht.out, htu.out⟩
end
end
section
open Go.RowKit Go.Shelf
theorem run_append_cut {W : World} {b n c : Nat} {l : List Int} (hrow : intRow W (.slice (some ⟨b, 0, none⟩) n c) l) (k : Nat) (hk : k ≤ l.length) (hl : l.length ≤ 1000000) (x : Int) :
  ∃ q pc w', (Builtin.append_ #[43, 43] 43 #[.slice (some ⟨b, 0, none⟩) k k, .slice (some ⟨W.heap.size, 0, none⟩) 1 1]).run Tryz.prog (W.alloc (.cells #[.int .i64 x] 3)) = .ok (.slice (some ⟨q, 0, none⟩) (k + 1) pc) w' ∧
   W.heap.size ≤ q ∧ intRow w' (.slice (some ⟨q, 0, none⟩) (k + 1) pc) (l.take k ++ [x]) ∧ Below W.heap.size W w' := by
 obtain ⟨i0, hi0, hz0, hz1, hz2⟩ := info_parts infoInt
 obtain ⟨Wa, hWa⟩ : ∃ Wa, Wa = W.alloc (.cells #[.int .i64 x] 3) := ⟨_, rfl⟩
 have hba : Below W.heap.size W Wa := by rw [hWa]; exact (Below.refl _ W).alloc (Nat.le_refl _) _
 have hXa : Wa.heap[W.heap.size]? = some (.cells #[.int .i64 x] 3 (0, 0)) := by rw [hWa]; exact heap_alloc_new W _
 have hza : Wa.heap.size = W.heap.size + 1 := by rw [hWa]; simp
 have hrowa : intRow Wa (.slice (some ⟨b, 0, none⟩) n c) l := row_block hrow fun b hb => hba.block b (row_lt hrow hb)
 have hge := grownCap_ge Wa (k + 1) k 3
 have hcm : grownCap Wa (k + 1) k 3 ≤ maxLen := grownCap_le_maxLen Wa (k + 1) k 3 (by unfold maxLen; omega)
 have hr := run_append_grow (P := Tryz.prog) Wa 43 43 3 i0 _ Tryz.underlying43 hi0 hz0 ⟨b, 0, none⟩ k k ((l.take k).map (Value.int .i64)) (by rw [hz1]; simp; omega) (by
   intro j v hj
   refine hrowa.cells (g := b) rfl j v ?_
   rw [List.getElem?_map] at hj ⊢
   rw [List.getElem?_take] at hj
   split at hj
   ·exact hj
   ·cases hj) ⟨W.heap.size, 0, none⟩ 1 1 [.int .i64 x] (by rw [hz1]; rfl) (by
   intro j u0 hj
   rw [add_zero_block]
   cases j with
   | zero => simp at hj; subst hj; exact cell_row hXa 0 _ rfl
   | succ j => simp at hj) (by omega) (by omega) (by rw [hz2]; exact growslice_fits (by omega) (by omega))
 rw [hWa] at hr
 rw [← hWa] at hr
 refine ⟨_, _, _, by rw [← hWa]; exact hr, by omega, ?_, ?_⟩
 ·show World.ownsRow _ 0 3 1 _ (l.take k ++ [x]).length ((l.take k ++ [x]).map (Value.int .i64))
  have hlen : (l.take k ++ [x]).length = k + 1 := by simp; omega
  rw [hlen]
  refine ⟨by simp; omega, .inr ⟨_, _, _, rfl, Nat.zero_le _, heap_alloc_new Wa.drew _, hge, hcm, ?_, ?_⟩⟩
  ·have hzc : (Value.int .i64 0).cells.size = 1 := rfl
   simp only [Array.size_append, List.size_toArray, size_zeroCells, hzc, List.length_map, List.length_take, List.length_cons, List.length_nil]
   omega
  ·simp only [Array.toList_append, List.append_assoc]
   rw [← List.append_assoc, List.map_append]
   have h2 : ((l.take k).map (Value.int .i64) ++ [Value.int .i64 x]).length = (k + 1) * 1 := by simp; omega
   rw [← h2]
   exact List.take_left
 ·refine ⟨hba.os, hba.tape, hba.output, by simp; omega, fun j hj => ?_⟩
  exact (((Below.refl _ Wa.drew).alloc (Nat.le_refl _) _).block j (by show j < Wa.heap.size; omega)).trans (hba.block j hj)
end
section
def nstep (out : List ItemD) (x : ItemD) : List ItemD :=
 if x.kind = 2 ∧ x.text = [] then out
 else match out[out.length - 1]? with
  | none => out ++ [x]
  | some p => if x.kind = 2 ∧ p.kind = 2 ∧ p.level = x.level then out.set (out.length - 1) { p with text := p.text ++ x.text } else out ++ [x]
def normalL (l : List ItemD) : List ItemD := l.foldl nstep []
def textSum (l : List ItemD) : Nat := (l.map (·.text.length)).sum
def SmallDoc (l : List ItemD) : Prop := SmallItems l ∧ textSum l ≤ 1000000000
theorem SmallItems.mem {l : List ItemD} (h : SmallItems l) : ∀ x ∈ l, SmallItem x := fun x hx => by
 obtain ⟨k, hk⟩ := List.mem_iff_getElem?.1 hx
 exact h.2 k x hk
end
section
open Go.RowKit
theorem Clone_any (l : List AttrD) (A : Option Addr) (c : Nat) (w : World) (hA : AttrsAt w w.heap.size A l) (hl : l.length ≤ 1000000000) :
  Calls Tryz.prog 51 #[.slice A l.length c] w (ClonePost w l) := by
 have keql := fun (w' : World) => Lib.run_eql_slice_nil (P := Tryz.prog) w' 48 66 A l.length c 0 0 Tryz.underlying48
 cases A with
 | none =>
  have h0 : l.length = 0 := by
   rcases Nat.eq_zero_or_pos l.length with h | h
   ·exact h
   ·obtain ⟨_, h, _⟩ := hA h; cases h
  have hnil := List.eq_nil_of_length_eq_zero h0
  clear hA keql
  subst hnil
  have keql := fun (w' : World) => Lib.run_eql_slice_nil (P := Tryz.prog) w' 48 66 none 0 c 0 0 Tryz.underlying48
  go_enter Tryz.func51, Tryz.ntmps51
  go_wp2_with fail
  go_ret
  exact ⟨none, 0, rfl, World.ownsRow_nil _ _ _ _, Below.refl _ _⟩
 | some ad =>
  have HF := Lib.hid hA.flat
  have HB : Hid (0 < l.length → ad.block < w.heap.size) := fun h => by obtain ⟨_, e, hb, _⟩ := hA h; injection e with e; subst e; exact hb
  clear hA
  go_enter Tryz.func51, Tryz.ntmps51
  obtain ⟨i0, hi0, hz0, hz1, hz2⟩ := info_parts infoAttr
  have hown : (w.alloc (.cells #[] 66)).ownsRow w.heap.size 66 2 (.slice (some ⟨w.heap.size, 0, none⟩) 0 0) 0 [] :=
   ⟨by simp, .inr ⟨w.heap.size, 0, #[], rfl, Nat.le_refl _, heap_alloc_new w _, Nat.le_refl _, by decide, by simp, by simp⟩⟩
  go_wp2_with (at_builtin; go_loud (refine wpList_append_own _ rfl (.tmp 5) (.tmp 6) 48 rfl w.heap.size 66 i0 (.agg #[.string ByteArray.empty, .string ByteArray.empty]) 2 32 Tryz.underlying48 hi0 hz0 hz1 hz2 rfl (by decide) _ 0 [] rfl hown ad l.length c (l.flatMap cellsA) rfl (flat_length cellsA 2 cellsA_length l) ?c1 (cellsA_one l) ?c2 ?c3 (by simp) ?c4))
  case c1 =>
   intro j u hu
   have hj : j < l.length * 2 := by rw [← flat_length cellsA 2 cellsA_length l]; exact (List.getElem?_eq_some_iff.1 hu).1
   rw [World.cell?_alloc_lt _ _ _ (by rw [block_of_add]; exact HB.out (by omega))]
   exact HF.out j u hu
  case c2 => unfold maxLen; omega
  case c3 => omega
  case c4 =>
   intro v' w' hown' hg _
   obtain ⟨A', c', rfl⟩ : ∃ A' c', v' = .slice A' l.length c' := by
    rcases hown'.2 with ⟨h1, h2⟩ | ⟨g, c, cur, hv, _⟩
    ·exact ⟨none, 0, by rw [h2]; exact h1⟩
    ·exact ⟨_, c, hv⟩
   have hown' : w'.ownsRow w.heap.size 66 2 (.slice A' l.length c') l.length (l.flatMap cellsA) := hown'
   go_wp2_with fail
   go_ret
   exact ⟨A', c', rfl, hown', ((Below.refl _ w).alloc (Nat.le_refl _) _).grown hg (by simp) (fun k hk => (hown.lt k hk).1)⟩
end
section
open Go.RowKit Go.Shelf
def Ent.new (par : Int) (x : ItemD) : Ent := ⟨par, x.node, []⟩
def layN (y : Lay) (id : Int) (q : Nat) (a : Value) : Lay := { nb := fset y.nb id q, att := fset y.att id a, kid := fset y.kid id (.slice none 0 0) }
theorem made_node {w w5 : World} {t mb : Nat} {y : Lay} {g : Int → Option Ent} {root next : Int} {n : Nat} (h : TreeAt w t mb y g root next n) {id : Int} (hw : wfI id) (hno : g id = none) (hn : n < maxLen) (par : Int) (x : ItemD) {A : Option Addr} {c : Nat}
  (h5 : AttrsOwn w5 w.heap.size A c x.attrs) (hb5 : Below w.heap.size w w5) :
  ∃ w7, (Instr.mapUpdate 73 (.map (some mb)) (.int .i64 id) (.pointer (some ⟨w5.heap.size, 0, none⟩))).run Tryz.prog (w5.alloc (.cells (nodeC id (Ent.new par x) (.slice A x.attrs.length c) (.slice none 0 0)) 92)) = .ok () w7 ∧
   TreeAt w7 t mb (layN y id w5.heap.size (.slice A x.attrs.length c)) (fset g id (some (Ent.new par x))) root next (n + 1) ∧
   Grows (Mine t mb y g) (Mine t mb (layN y id w5.heap.size (.slice A x.attrs.length c)) (fset g id (some (Ent.new par x)))) w w7 := by
 obtain ⟨w6, hw6⟩ : ∃ w6, w6 = w5.alloc (.cells (nodeC id (Ent.new par x) (.slice A x.attrs.length c) (.slice none 0 0)) 92) := ⟨_, rfl⟩
 have hb56 : Below w5.heap.size w5 w6 := by rw [hw6]; exact (Below.refl _ w5).alloc (Nat.le_refl _) _
 have hb6 : Below w.heap.size w w6 := hb5.trans (hb56.mono hb5.size)
 have hnode : w6.heap[w5.heap.size]? = some (.cells (nodeC id (Ent.new par x) (.slice A x.attrs.length c) (.slice none 0 0)) 92 (0, 0)) := by rw [hw6]; exact heap_alloc_new w5 _
 have hatt : attRow w6 (.slice A x.attrs.length c) (Ent.new par x).d.attrs := row_block (World.ownsRow.mono h5 (Nat.zero_le _)) fun b hb => hb56.block b (h5.lt b hb).2
 have ha : ∀ b, (Value.slice A x.attrs.length c).ownBlock = some b → w.heap.size ≤ b := fun b hb => (h5.lt b hb).1
 have h6 := h.below hb6
 obtain ⟨w7, hr, hm, hg⟩ := h6.map.put hw hn (by simp [hno]) w5.heap.size
 obtain ⟨q1, q2⟩ := h.add hno (Ent.new par x) rfl w5.heap.size (.slice A x.attrs.length c) hb6 hb5.size hnode hatt ha hm hg
 rw [hw6] at hr
 refine ⟨w7, hr, q1, ⟨⟨hg.os.trans hb6.os, hg.tape.trans hb6.tape, hg.output.trans hb6.output, Nat.le_trans hb6.size hg.size, fun b hb hmi => ?_⟩, q2⟩⟩
 exact (hg.block b (Nat.lt_of_lt_of_le hb hb6.size) (fun e => hmi (.inr (.inl (by injection e))))).trans (hb6.block b hb)
end
section
structure GS where
 op : List Int
 pl : Nat
 g : Int → Option Ent
 root : Int
 n : Nat
def growStep (s : GS) (x : ItemD) (id : Int) : Option GS :=
 if x.level < 0 then none else
 match s.op[x.level.toNat]? with
 | none => none
 | some p =>
  if s.g id ≠ none then none else
  let op' := s.op.take (x.level.toNat + 1) ++ [id]
  let g1 := fset s.g id (some (Ent.new p x))
  if p = 0 then some { s with op := op', g := g1, root := id, n := s.n + 1 } else
  match g1 p with
  | none => none
  | some e =>
   if x.level = 0 then
    if s.pl ≤ e.kids.length then some { s with op := op', pl := s.pl + 1, g := fset g1 p (some { e with kids := e.kids.take s.pl ++ id :: e.kids.drop s.pl }), n := s.n + 1 } else none
   else some { s with op := op', g := fset g1 p (some { e with kids := e.kids ++ [id] }), n := s.n + 1 }
def growS : List (ItemD × Int) → GS → Option GS
 | [], s => some s
 | (x, id) :: r, s => (growStep s x id).bind (growS r)
theorem growS_snoc : ∀ (l : List (ItemD × Int)) (x : ItemD) (id : Int) (s : GS), growS (l ++ [(x, id)]) s = (growS l s).bind fun s' => growStep s' x id
 | [], x, id, s => by simp [growS]
 | (x0, id0) :: r, x, id, s => by
  simp only [List.cons_append, growS]
  cases growStep s x0 id0 with
  | none => rfl
  | some s' => simpa using growS_snoc r x id s'
theorem growS_take {l : List (ItemD × Int)} {k : Nat} {x : ItemD} {id : Int} (hk : l[k]? = some (x, id)) {s s2 : GS} (h : growS l s = some s2) :
  ∃ s0 s1, growS (l.take k) s = some s0 ∧ growStep s0 x id = some s1 ∧ growS (l.take (k + 1)) s = some s1 := by
 have e : l.take (k + 1) = l.take k ++ [(x, id)] := by rw [List.take_add_one, hk]; rfl
 have app : ∀ (a b : List (ItemD × Int)) (s : GS), growS (a ++ b) s = (growS a s).bind (growS b) := by
  intro a
  induction a with
  | nil => intro b s; rfl
  | cons z a ih =>
   intro b s
   obtain ⟨z1, z2⟩ := z
   simp only [List.cons_append, growS]
   cases growStep s z1 z2 with
   | none => rfl
   | some s' => simpa using ih b s'
 have h1 := app (l.take (k + 1)) (l.drop (k + 1)) s
 rw [List.take_append_drop, h] at h1
 cases h2 : growS (l.take (k + 1)) s with
 | none => rw [h2] at h1; cases h1
 | some s1 =>
  rw [e, growS_snoc] at h2
  cases h3 : growS (l.take k) s with
  | none => rw [h3] at h2; cases h2
  | some s0 =>
   rw [h3] at h2
   exact ⟨s0, s1, rfl, h2, rfl⟩
section
variable {s s1 : GS} {x : ItemD} {id p : Int} {lv : Nat}
theorem growStep_root (hlv : x.level = (lv : Int)) (hp : s.op[lv]? = some 0) (h : growStep s x id = some s1) : s1 = { s with op := s.op.take (lv + 1) ++ [id], g := fset s.g id (some (Ent.new 0 x)), root := id, n := s.n + 1 } := by
 unfold growStep at h
 rw [hlv, if_neg (by omega), Int.toNat_natCast, hp] at h
 simp only [if_true] at h
 split at h
 ·cases h
 ·injection h with h
  exact h.symm
theorem growStep_first (hlv : x.level = (lv : Int)) (h0 : lv = 0) (hp : s.op[lv]? = some p) (hp0 : p ≠ 0) (h : growStep s x id = some s1) : ∃ e, fset s.g id (some (Ent.new p x)) p = some e ∧ s.pl ≤ e.kids.length ∧
  s1 = { s with op := s.op.take (lv + 1) ++ [id], pl := s.pl + 1, g := fset (fset s.g id (some (Ent.new p x))) p (some { e with kids := e.kids.take s.pl ++ id :: e.kids.drop s.pl }), n := s.n + 1 } := by
 unfold growStep at h
 rw [hlv, if_neg (by omega), Int.toNat_natCast, hp] at h
 simp only [hp0, if_false] at h
 split at h
 ·cases h
 ·split at h
  ·cases h
  ·rename_i e he
   rw [if_pos (by omega)] at h
   split at h
   ·rename_i hpl
    injection h with h
    exact ⟨e, he, hpl, h.symm⟩
   ·cases h
theorem growStep_more (hlv : x.level = (lv : Int)) (h0 : lv ≠ 0) (hp : s.op[lv]? = some p) (hp0 : p ≠ 0) (h : growStep s x id = some s1) : ∃ e, fset s.g id (some (Ent.new p x)) p = some e ∧
  s1 = { s with op := s.op.take (lv + 1) ++ [id], g := fset (fset s.g id (some (Ent.new p x))) p (some { e with kids := e.kids ++ [id] }), n := s.n + 1 } := by
 unfold growStep at h
 rw [hlv, if_neg (by omega), Int.toNat_natCast, hp] at h
 simp only [hp0, if_false] at h
 split at h
 ·cases h
 ·split at h
  ·cases h
  ·rename_i e he
   rw [if_neg (by omega)] at h
   injection h with h
   exact ⟨e, he, h.symm⟩
end
def GB (n pl j : Nat) (s : GS) : Prop := (∀ z ∈ s.op, wfI z) ∧ s.n ≤ n + j ∧ s.pl ≤ pl + j ∧ ∀ id e, s.g id = some e → e.kids.length ≤ 100000 + j
theorem GB.step {n pl j : Nat} {s s1 : GS} {x : ItemD} {id : Int} (h : GB n pl j s) (hw : wfI id) (hs : growStep s x id = some s1) : GB n pl (j + 1) s1 := by
 obtain ⟨h1, h2, h3, h4⟩ := h
 have hop : ∀ (k : Nat), ∀ z ∈ s.op.take k ++ [id], wfI z := fun k z hz => by
  rcases List.mem_append.1 hz with hz | hz
  ·exact h1 z (List.mem_of_mem_take hz)
  ·rw [List.mem_singleton.1 hz]; exact hw
 have hnew : ∀ (p : Int), ∀ z e, fset s.g id (some (Ent.new p x)) z = some e → e.kids.length ≤ 100000 + j := fun p z e he => by
  unfold fset at he
  split at he
  ·injection he with he; rw [← he]; simp [Ent.new]
  ·exact h4 z e he
 unfold growStep at hs
 split at hs
 ·cases hs
 split at hs
 ·cases hs
 rename_i p hp
 split at hs
 ·cases hs
 simp only at hs
 split at hs
 ·injection hs with hs
  rw [← hs]
  exact ⟨hop _, by simp; omega, by simp; omega, fun z e he => by have := hnew p z e he; omega⟩
 split at hs
 ·cases hs
 rename_i e0 he0
 have hk0 := hnew p p e0 he0
 have hset : ∀ (l : List Int), l.length = e0.kids.length + 1 → ∀ z e, fset (fset s.g id (some (Ent.new p x))) p (some { e0 with kids := l }) z = some e → e.kids.length ≤ 100000 + (j + 1) := fun l hl z e he => by
  unfold fset at he
  split at he
  ·injection he with he; rw [← he]; simp only; omega
  ·have := hnew p z e he; omega
 split at hs
 ·split at hs
  ·injection hs with hs
   rw [← hs]
   exact ⟨hop _, by simp; omega, by simp; omega, hset _ (by simp; omega)⟩
  ·cases hs
 ·injection hs with hs
  rw [← hs]
  exact ⟨hop _, by simp; omega, by simp; omega, hset _ (by simp)⟩
theorem growS_GB : ∀ (l : List (ItemD × Int)) (s s' : GS) (n pl j : Nat), GB n pl j s → (∀ z ∈ l, wfI z.2) → growS l s = some s' → GB n pl (j + l.length) s'
 | [], s, s', n, pl, j, h, _, hs => by injection hs with hs; rw [← hs]; exact h
 | (x, id) :: r, s, s', n, pl, j, h, hw, hs => by
  simp only [growS] at hs
  cases h1 : growStep s x id with
  | none => rw [h1] at hs; cases hs
  | some s1 =>
   rw [h1] at hs
   have := growS_GB r s1 s' n pl (j + 1) (h.step (hw (x, id) (by simp)) h1) (fun z hz => hw z (by simp [hz])) hs
   simp only [List.length_cons]
   rw [show j + (r.length + 1) = j + 1 + r.length by omega]
   exact this
end
section
namespace Fo
def ent : Int → Fo → Int → Option Ent
 | _, nil, _ => none
 | q, cons id d ks r, x => if x = id then some ⟨q, d, ks.roots⟩ else match ent id ks x with
  | some e => some e
  | none => ent q r x
theorem ent_not : ∀ (f : Fo) (q x : Int), x ∉ f.ids → f.ent q x = none
 | nil, _, _, _ => rfl
 | cons id d ks r, q, x, h => by
  simp [ids] at h
  rw [ent, if_neg h.1, ent_not ks id x h.2.1]
  exact ent_not r q x h.2.2
theorem ent_mem : ∀ (f : Fo) (q x : Int) (e : Ent), f.ent q x = some e → x ∈ f.ids
 | nil, _, _, _, h => by cases h
 | cons id d ks r, q, x, e, h => by
  rw [ent] at h
  by_cases hx : x = id
  ·simp [ids, hx]
  rw [if_neg hx] at h
  cases hk : ks.ent id x with
  | some e' => simp [ids, ent_mem ks id x e' hk]
  | none => rw [hk] at h; simp [ids, ent_mem r q x e h]
theorem ent_some : ∀ (f : Fo) (q x : Int), x ∈ f.ids → ∃ e, f.ent q x = some e
 | nil, _, _, h => by simp [ids] at h
 | cons id d ks r, q, x, h => by
  rw [ent]
  by_cases hx : x = id
  ·exact ⟨_, by rw [if_pos hx]⟩
  rw [if_neg hx]
  cases hk : ks.ent id x with
  | some e' => exact ⟨e', rfl⟩
  | none =>
   have h1 : x ∉ ks.ids := fun h1 => by
    obtain ⟨e, he⟩ := ent_some ks id x h1
    rw [hk] at he; cases he
   simp [ids, hx, h1] at h
   exact ent_some r q x h
theorem agr_of : ∀ (f : Fo) (q : Int) (g : Int → Option Ent), f.ids.Nodup → (∀ x ∈ f.ids, g x = f.ent q x) → Agr g q f
 | nil, _, _, _, _ => trivial
 | cons id d ks r, q, g, hn, h => by
  simp only [ids, List.nodup_cons, List.nodup_append, List.mem_append, not_or] at hn
  obtain ⟨⟨hk, hr⟩, nk, nr, hd⟩ := hn
  refine ⟨?_, ?_, ?_⟩
  ·rw [h id (by simp [ids]), ent, if_pos rfl]
  ·refine agr_of ks id g nk fun x hx => ?_
   have hxi : x ≠ id := by rintro rfl; exact hk hx
   rw [h x (by simp [ids, hx]), ent, if_neg hxi]
   obtain ⟨e, he⟩ := ent_some ks id x hx
   rw [he]
  ·refine agr_of r q g nr fun x hx => ?_
   have hxi : x ≠ id := by rintro rfl; exact hr hx
   rw [h x (by simp [ids, hx]), ent, if_neg hxi, ent_not ks id x (fun hk' => hd x hk' x hx rfl)]
theorem agr_ent (f : Fo) (q : Int) (hn : f.ids.Nodup) : Agr (f.ent q) q f := agr_of f q _ hn fun _ _ => rfl
end Fo
def prs (lv : Int) (F : Fo) : List (ItemD × Int) := (F.flat lv).map fun r => (r.x, r.id)
def addG (g : Int → Option Ent) (p : Int) (pos : Nat) (F : Fo) : Int → Option Ent := fun x => match F.ent p x with
 | some e => some e
 | none => if x = p then (g p).map (fun e => { e with kids := e.kids.take pos ++ F.roots ++ e.kids.drop pos }) else g x
theorem addG_nil (g : Int → Option Ent) (p : Int) (pos : Nat) : addG g p pos .nil = g := by
 funext x
 show (if x = p then _ else _) = _
 by_cases h : x = p
 ·subst h
  rw [if_pos rfl]
  cases g x with
  | none => rfl
  | some e => simp [Fo.roots]
 ·rw [if_neg h]
theorem growS_app : ∀ (a b : List (ItemD × Int)) (s : GS), growS (a ++ b) s = (growS a s).bind (growS b)
 | [], _, _ => rfl
 | (z1, z2) :: a, b, s => by
  simp only [List.cons_append, growS]
  cases growStep s z1 z2 with
  | none => rfl
  | some s' => simpa using growS_app a b s'
theorem prs_cons (lv : Int) (id : Int) (d : NodeD) (ks r : Fo) : prs lv (.cons id d ks r) = (d.at lv, id) :: (prs (lv + 1) ks ++ prs lv r) := by
 simp [prs, Fo.flat]
theorem addG_step (g : Int → Option Ent) (p id : Int) (pos : Nat) (d : NodeD) (ks r : Fo) (e : Ent) (he : g p = some e) (hpos : pos ≤ e.kids.length) (hn : (Fo.cons id d ks r).ids.Nodup) (hp : p ∉ (Fo.cons id d ks r).ids) :
  addG (addG (fset (fset g id (some (Ent.new p (d.at 0)))) p (some { e with kids := e.kids.take pos ++ id :: e.kids.drop pos })) id 0 ks) p (pos + 1) r = addG g p pos (.cons id d ks r) := by
 simp only [Fo.ids, List.nodup_cons, List.nodup_append, List.mem_append, not_or] at hn
 obtain ⟨⟨hk, hr⟩, nk, nr, hd⟩ := hn
 simp only [Fo.ids, List.mem_cons, List.mem_append, not_or] at hp
 obtain ⟨hpi, hpk, hpr⟩ := hp
 funext x
 unfold addG
 rw [Fo.ent]
 by_cases h1 : x = id
 ·subst h1
  rw [if_pos rfl, Fo.ent_not r p x hr, if_neg (fun e => hpi e.symm), Fo.ent_not ks x x hk]
  simp only [if_true]
  rw [fset_other _ _ (fun e => hpi e.symm), fset_same]
  simp [Ent.new, at_node]
 rw [if_neg h1]
 by_cases h2 : x = p
 ·subst h2
  rw [Fo.ent_not r x x hpr, Fo.ent_not ks id x hpk]
  simp only [if_true]
  rw [if_neg h1, fset_same, he]
  simp only [Option.map_some, Fo.roots]
  congr 2
  have ht : (e.kids.take pos).length = pos := by simp; omega
  have : (e.kids.take pos ++ id :: e.kids.drop pos) = (e.kids.take pos ++ [id]) ++ e.kids.drop pos := by simp
  rw [this, List.take_left' (by simp; omega), List.drop_left' (by simp; omega), if_neg h1]
  simp
 ·rw [if_neg h2, if_neg h2]
  cases hrx : r.ent p x with
  | some e' =>
   have := Fo.ent_mem r p x e' hrx
   rw [Fo.ent_not ks id x (fun h => hd x h x this rfl)]
   simp [h1]
  | none =>
   cases hkx : ks.ent id x with
   | some e' => simp [h1]
   | none => simp [h1, fset, h2]
theorem new_at (p : Int) (d : NodeD) (lv : Int) : Ent.new p (d.at lv) = Ent.new p (d.at 0) := rfl
theorem growS_flat : ∀ (F : Fo) (lv : Nat) (p : Int) (s : GS) (pos : Nat) (e : Ent), F.ids.Nodup → p ∉ F.ids → p ≠ 0 → (∀ x ∈ F.ids, s.g x = none ∧ x ≠ 0) → s.op[lv]? = some p → s.g p = some e → pos ≤ e.kids.length → (lv = 0 → pos = s.pl) → (lv ≠ 0 → pos = e.kids.length) →
  ∃ s', growS (prs lv F) s = some s' ∧ s'.op.take (lv + 1) = s.op.take (lv + 1) ∧ s'.pl = (if lv = 0 then s.pl + F.roots.length else s.pl) ∧ s'.g = addG s.g p pos F ∧ s'.root = s.root ∧ s'.n = s.n + F.cnt
 | .nil, lv, p, s, pos, e, _, _, _, _, _, _, _, _, _ => ⟨s, rfl, rfl, by simp [Fo.roots], (addG_nil _ _ _).symm, rfl, rfl⟩
 | .cons id d ks r, lv, p, s, pos, e, hn, hp, hp0, hg, hop, hge, hpos, hz, hnz => by
  have hn' := hn
  have hp' := hp
  simp only [Fo.ids, List.nodup_cons, List.nodup_append, List.mem_append, not_or] at hn
  obtain ⟨⟨hk, hr⟩, nk, nr, hd⟩ := hn
  simp only [Fo.ids, List.mem_cons, List.mem_append, not_or] at hp
  obtain ⟨hpi, hpk, hpr⟩ := hp
  have hid := hg id (by simp [Fo.ids])
  have hlt := (List.getElem?_eq_some_iff.1 hop).1
  obtain ⟨g1, hg1⟩ : ∃ g1, g1 = fset (fset s.g id (some (Ent.new p (d.at 0)))) p (some { e with kids := e.kids.take pos ++ id :: e.kids.drop pos }) := ⟨_, rfl⟩
  obtain ⟨pl1, hpl1⟩ : ∃ pl1, pl1 = if lv = 0 then s.pl + 1 else s.pl := ⟨_, rfl⟩
  have hstep : growStep s (d.at lv) id = some ⟨s.op.take (lv + 1) ++ [id], pl1, g1, s.root, s.n + 1⟩ := by
   unfold growStep
   rw [at_level, if_neg (by omega), Int.toNat_natCast, hop]
   simp only [hid.1, ne_eq, not_true, if_false, hp0]
   rw [fset_other _ _ hpi, hge, new_at]
   simp only
   by_cases h0 : lv = 0
   ·subst h0
    have := hz rfl
    subst this
    rw [if_pos (by rfl), if_pos hpos, hg1, hpl1, if_pos rfl]
   ·rw [if_neg (by omega), hg1, hpl1, if_neg h0, hnz h0]
    simp
  have e1 : g1 id = some ⟨p, d, []⟩ := by rw [hg1, fset_other _ _ (fun e => hpi e.symm), fset_same]; rfl
  have e2 : g1 p = some { e with kids := e.kids.take pos ++ id :: e.kids.drop pos } := by rw [hg1, fset_same]
  have e3 : ∀ x, x ≠ id → x ≠ p → g1 x = s.g x := fun x h1 h2 => by rw [hg1, fset_other _ _ h2, fset_other _ _ h1]
  have hlen : (s.op.take (lv + 1)).length = lv + 1 := by simp; omega
  obtain ⟨s2, q1, q2, q3, q4, q5, q6⟩ := growS_flat ks (lv + 1) id ⟨s.op.take (lv + 1) ++ [id], pl1, g1, s.root, s.n + 1⟩ 0 ⟨p, d, []⟩ nk hk hid.2 (fun x hx => ⟨by
    show g1 x = none
    rw [e3 x (fun h => hk (h ▸ hx)) (fun h => hpk (h ▸ hx))]
    exact (hg x (by simp [Fo.ids, hx])).1, (hg x (by simp [Fo.ids, hx])).2⟩) (by
    show (s.op.take (lv + 1) ++ [id])[lv + 1]? = some id
    rw [List.getElem?_append_right (by omega), hlen]; simp) e1 (Nat.le_refl _) (by simp) (fun _ => rfl)
  have q2' : s2.op.take (lv + 1) = s.op.take (lv + 1) := by
   have := congrArg (List.take (lv + 1)) q2
   rw [List.take_take, List.take_take, Nat.min_eq_left (by omega), List.take_left' hlen] at this
   exact this
  have q3' : s2.pl = pl1 := by rw [q3, if_neg (by omega)]
  obtain ⟨s3, t1, t2, t3, t4, t5, t6⟩ := growS_flat r lv p s2 (pos + 1) { e with kids := e.kids.take pos ++ id :: e.kids.drop pos } nr hpr hp0 (fun x hx => ⟨by
    rw [q4]
    unfold addG
    rw [Fo.ent_not ks id x (fun h => hd x h x hx rfl)]
    have hxi : x ≠ id := fun h => hr (h ▸ hx)
    simp only [if_neg hxi]
    rw [e3 x hxi (fun h => hpr (h ▸ hx))]
    exact (hg x (by simp [Fo.ids, hx])).1, (hg x (by simp [Fo.ids, hx])).2⟩) (by
    have : s2.op[lv]? = (s2.op.take (lv + 1))[lv]? := by rw [List.getElem?_take, if_pos (by omega)]
    rw [this, q2', List.getElem?_take, if_pos (by omega)]; exact hop) (by
    rw [q4]
    unfold addG
    rw [Fo.ent_not ks id p hpk]
    simp only [if_neg hpi]
    exact e2) (by simp; omega) (fun h => by rw [q3', hpl1, if_pos h, hz h]) (fun h => by
    simp [hnz h])
  refine ⟨s3, ?_, by rw [t2, q2'], ?_, ?_, by rw [t5, q5], by rw [t6, q6]; simp [Fo.cnt]; omega⟩
  ·rw [prs_cons]
   show (growStep s (d.at lv) id).bind _ = _
   rw [hstep, Option.bind_some, growS_app]
   rw [show ((lv : Int) + 1) = ((lv + 1 : Nat) : Int) by omega, q1]
   exact t1
  ·rw [t3, q3', hpl1]
   by_cases h0 : lv = 0
   ·simp [h0, Fo.roots]; omega
   ·simp [h0]
  ·rw [t4, q4, hg1]
   exact addG_step s.g p id pos d ks r e hge hpos hn' hp'
theorem growS_root (id : Int) (d : NodeD) (ks : Fo) (pl n0 : Nat) (hn : (Fo.cons id d ks .nil).ids.Nodup) (h0 : (0 : Int) ∉ (Fo.cons id d ks .nil).ids) (r0 : Int) :
  ∃ s', growS (prs 0 (.cons id d ks .nil)) ⟨[0], pl, fun _ => none, r0, n0⟩ = some s' ∧ s'.g = (Fo.cons id d ks .nil).ent 0 ∧ s'.root = id ∧ s'.n = n0 + (Fo.cons id d ks .nil).cnt := by
 simp only [Fo.ids, List.nodup_cons, List.nodup_append, List.mem_append, not_or] at hn
 obtain ⟨⟨hk, hr⟩, nk, nr, hd⟩ := hn
 simp only [Fo.ids, List.mem_cons, List.mem_append, not_or] at h0
 obtain ⟨h0i, h0k, _⟩ := h0
 have hstep : growStep ⟨[0], pl, fun _ => none, r0, n0⟩ (d.at 0) id = some ⟨[0, id], pl, fset (fun _ => none) id (some (Ent.new 0 (d.at 0))), id, n0 + 1⟩ := by
  unfold growStep
  rw [at_level, if_neg (by omega)]
  simp
 obtain ⟨s2, q1, q2, q3, q4, q5, q6⟩ := growS_flat ks 1 id ⟨[0, id], pl, fset (fun _ => none) id (some (Ent.new 0 (d.at 0))), id, n0 + 1⟩ 0 ⟨0, d, []⟩ nk hk (fun e => h0i e.symm) (fun x hx => ⟨by
   show fset (fun _ => none) id (some (Ent.new 0 (d.at 0))) x = none
   have hxi : x ≠ id := by rintro rfl; exact hk hx
   rw [fset_other _ _ hxi], fun h => h0k (h ▸ hx)⟩) rfl (by show fset (fun _ => none) id (some (Ent.new 0 (d.at 0))) id = _; rw [fset_same]; rfl) (Nat.le_refl _) (by simp) (fun _ => rfl)
 refine ⟨s2, ?_, ?_, q5, by rw [q6]; simp [Fo.cnt]; omega⟩
 ·rw [prs_cons]
  show (growStep _ (d.at 0) id).bind _ = _
  rw [hstep, Option.bind_some]
  have : prs 0 Fo.nil = [] := rfl
  rw [this, List.append_nil]
  exact q1
 ·rw [q4]
  funext x
  unfold addG
  rw [Fo.ent]
  by_cases hx : x = id
  ·subst hx
   rw [Fo.ent_not ks x x hk]
   simp only [if_true, fset_same]
   simp [Ent.new, at_node]
  ·rw [if_neg hx]
   cases ks.ent id x with
   | some e => simp [hx]
   | none => simp [hx, fset, Fo.ent]
end
section
namespace Fo
theorem ids_setD : ∀ (f : Fo) (p : Int) (h : NodeD → NodeD), (f.setD p h).ids = f.ids
 | nil, _, _ => rfl
 | cons id d ks r, p, h => by
  rw [setD]
  by_cases e : id = p
  ·rw [if_pos e]; rfl
  ·rw [if_neg e, ids, ids, ids_setD ks, ids_setD r]
theorem roots_setD : ∀ (f : Fo) (p : Int) (h : NodeD → NodeD), (f.setD p h).roots = f.roots
 | nil, _, _ => rfl
 | cons id d ks r, p, h => by
  rw [setD]
  by_cases e : id = p
  ·rw [if_pos e]; rfl
  ·rw [if_neg e, roots, roots, roots_setD r]
theorem cnt_setD (f : Fo) (p : Int) (h : NodeD → NodeD) : (f.setD p h).cnt = f.cnt := by rw [← ids_len, ids_setD, ids_len]
theorem ent_setD : ∀ (f : Fo) (p q : Int) (h : NodeD → NodeD), f.ids.Nodup → ∀ x, (f.setD p h).ent q x = if x = p then (f.ent q x).map (fun e => { e with d := h e.d }) else f.ent q x
 | nil, p, q, h, _, x => by simp [setD, ent]
 | cons id d ks r, p, q, h, hn, x => by
  simp only [ids, List.nodup_cons, List.nodup_append, List.mem_append, not_or] at hn
  obtain ⟨⟨hk, hr⟩, nk, nr, hd⟩ := hn
  rw [setD]
  by_cases e : id = p
  ·subst e
   rw [if_pos rfl, ent, ent]
   by_cases hx : x = id
   ·simp [hx]
   ·simp [hx]
  ·rw [if_neg e, ent, ent, roots_setD]
   by_cases hx : x = id
   ·subst hx
    rw [if_pos rfl, if_pos rfl, if_neg e]
   ·rw [if_neg hx, if_neg hx, ent_setD ks p id h nk, ent_setD r p q h nr]
    by_cases hp : x = p
    ·simp only [if_pos hp]
     cases ks.ent id x <;> rfl
    ·simp only [if_neg hp]
theorem ent_app : ∀ (a b : Fo) (q x : Int), (app a b).ent q x = match a.ent q x with
  | some e => some e
  | none => b.ent q x
 | nil, _, _, _ => rfl
 | cons id d ks r, b, q, x => by
  rw [app, ent, ent]
  by_cases hx : x = id
  ·rw [if_pos hx, if_pos hx]
  ·rw [if_neg hx, if_neg hx, ent_app r b q x]
   cases ks.ent id x <;> rfl
theorem insAt_facts (n : Nat) (new f : Fo) : (∀ x, x ∈ (insAt n new f).ids ↔ x ∈ new.ids ∨ x ∈ f.ids) ∧ (insAt n new f).roots = f.roots.take n ++ new.roots ++ f.roots.drop n ∧ (insAt n new f).cnt = new.cnt + f.cnt ∧ (f.ids.Nodup → new.ids.Nodup → (∀ x ∈ new.ids, x ∉ f.ids) → (insAt n new f).ids.Nodup) ∧
  ((∀ x ∈ new.ids, x ∉ f.ids) → ∀ q x, (insAt n new f).ent q x = match new.ent q x with
   | some e => some e
   | none => f.ent q x) := by
 obtain ⟨A, B, h1, h2, h3, h4⟩ := insAt_flat n new f
 refine ⟨fun x => ?_, ?_, ?_, fun hf hnew hd => ?_, fun hd q x => ?_⟩
 ·rw [h2, ids_app, ids_app, h1, ids_app]
  simp only [List.mem_append]
  constructor
  ·rintro (h | h | h)
   ·exact .inr (.inl h)
   ·exact .inl h
   ·exact .inr (.inr h)
  ·rintro (h | h | h)
   ·exact .inr (.inl h)
   ·exact .inl h
   ·exact .inr (.inr h)
 ·rw [h2, roots_app, roots_app, h3, h4, List.append_assoc]
 ·rw [h2, cnt_app, cnt_app, h1, cnt_app]; omega
 ·rw [h2, ids_app, ids_app]
  rw [h1, ids_app] at hf hd
  rw [List.nodup_append] at hf ⊢
  obtain ⟨f1, f2, f3⟩ := hf
  refine ⟨f1, ?_, ?_⟩
  ·rw [List.nodup_append]
   exact ⟨hnew, f2, fun a ha b hb e => hd a ha (by rw [e]; simp [hb])⟩
  ·intro a ha b hb e
   rcases List.mem_append.1 hb with hb | hb
   ·exact hd b hb (by rw [← e]; simp [ha])
   ·exact f3 a ha b hb e
 ·rw [h2, ent_app, ent_app, h1, ent_app]
  cases hnx : new.ent q x with
  | some e =>
   have := hd x (ent_mem _ _ _ _ hnx)
   rw [h1, ids_app] at this
   rw [ent_not A q x (fun h => this (by simp [h]))]
  | none => cases A.ent q x <;> rfl
theorem roots_upd : ∀ (f : Fo) (p : Int) (h : Fo → Fo), (f.upd p h).roots = f.roots
 | nil, _, _ => rfl
 | cons id d ks r, p, h => by
  rw [upd]
  by_cases e : id = p
  ·rw [if_pos e]; rfl
  ·rw [if_neg e, roots, roots, roots_upd r]
theorem ids_upd_ins : ∀ (f : Fo) (p : Int) (pos : Nat) (new : Fo), p ∈ f.ids → f.ids.Nodup → ∀ x, x ∈ (f.upd p (insAt pos new)).ids ↔ x ∈ new.ids ∨ x ∈ f.ids
 | nil, _, _, _, h, _, _ => by simp [ids] at h
 | cons id d ks r, p, pos, new, hp, hn, x => by
  simp only [ids, List.nodup_cons, List.nodup_append, List.mem_append, not_or] at hn
  obtain ⟨⟨hk, hr⟩, nk, nr, hd⟩ := hn
  rw [upd]
  by_cases e : id = p
  ·rw [if_pos e]
   simp only [ids, List.mem_cons, List.mem_append, (insAt_facts pos new ks).1 x]
   constructor
   ·rintro (h | (h | h) | h)
    ·exact .inr (.inl h)
    ·exact .inl h
    ·exact .inr (.inr (.inl h))
    ·exact .inr (.inr (.inr h))
   ·rintro (h | h | h | h)
    ·exact .inr (.inl (.inl h))
    ·exact .inl h
    ·exact .inr (.inl (.inr h))
    ·exact .inr (.inr h)
  ·rw [if_neg e]
   simp only [ids, List.mem_cons, List.mem_append]
   simp only [ids, List.mem_cons, List.mem_append] at hp
   by_cases hpk : p ∈ ks.ids
   ·have hpr : p ∉ r.ids := fun h => hd p hpk p h rfl
    rw [upd_not r p _ hpr, ids_upd_ins ks p pos new hpk nk x]
    constructor
    ·rintro (h | (h | h) | h)
     ·exact .inr (.inl h)
     ·exact .inl h
     ·exact .inr (.inr (.inl h))
     ·exact .inr (.inr (.inr h))
    ·rintro (h | h | h | h)
     ·exact .inr (.inl (.inl h))
     ·exact .inl h
     ·exact .inr (.inl (.inr h))
     ·exact .inr (.inr h)
   ·have hpr : p ∈ r.ids := by
     rcases hp with h | h | h
     ·exact absurd h.symm e
     ·exact absurd h hpk
     ·exact h
    rw [upd_not ks p _ hpk, ids_upd_ins r p pos new hpr nr x]
    constructor
    ·rintro (h | h | h | h)
     ·exact .inr (.inl h)
     ·exact .inr (.inr (.inl h))
     ·exact .inl h
     ·exact .inr (.inr (.inr h))
    ·rintro (h | h | h | h)
     ·exact .inr (.inr (.inl h))
     ·exact .inl h
     ·exact .inr (.inl h)
     ·exact .inr (.inr (.inr h))
theorem cnt_upd_ins : ∀ (f : Fo) (p : Int) (pos : Nat) (new : Fo), p ∈ f.ids → f.ids.Nodup → (f.upd p (insAt pos new)).cnt = f.cnt + new.cnt
 | nil, _, _, _, h, _ => by simp [ids] at h
 | cons id d ks r, p, pos, new, hp, hn => by
  simp only [ids, List.nodup_cons, List.nodup_append, List.mem_append, not_or] at hn
  obtain ⟨⟨hk, hr⟩, nk, nr, hd⟩ := hn
  rw [upd]
  by_cases e : id = p
  ·rw [if_pos e]
   simp only [cnt, (insAt_facts pos new ks).2.2.1]; omega
  ·rw [if_neg e]
   simp only [ids, List.mem_cons, List.mem_append] at hp
   by_cases hpk : p ∈ ks.ids
   ·have hpr : p ∉ r.ids := fun h => hd p hpk p h rfl
    rw [upd_not r p _ hpr]
    simp only [cnt]
    rw [cnt_upd_ins ks p pos new hpk nk]; omega
   ·have hpr : p ∈ r.ids := by
     rcases hp with h | h | h
     ·exact absurd h.symm e
     ·exact absurd h hpk
     ·exact h
    rw [upd_not ks p _ hpk]
    simp only [cnt]
    rw [cnt_upd_ins r p pos new hpr nr]; omega
theorem nodup_upd_ins : ∀ (f : Fo) (p : Int) (pos : Nat) (new : Fo), f.ids.Nodup → new.ids.Nodup → (∀ x ∈ new.ids, x ∉ f.ids) → p ∈ f.ids → (f.upd p (insAt pos new)).ids.Nodup
 | nil, _, _, _, _, _, _, h => by simp [ids] at h
 | cons id d ks r, p, pos, new, hn, hnew, hdis, hp => by
  have hn' := hn
  simp only [ids, List.nodup_cons, List.nodup_append, List.mem_append, not_or] at hn
  obtain ⟨⟨hk, hr⟩, nk, nr, hd⟩ := hn
  have d0 : id ∉ new.ids := fun h => hdis id h (by simp [ids])
  have dk : ∀ x ∈ new.ids, x ∉ ks.ids := fun x h h' => hdis x h (by simp [ids, h'])
  have dr : ∀ x ∈ new.ids, x ∉ r.ids := fun x h h' => hdis x h (by simp [ids, h'])
  rw [upd]
  by_cases e : id = p
  ·rw [if_pos e]
   obtain ⟨i1, _, _, i4, _⟩ := insAt_facts pos new ks
   simp only [ids, List.nodup_cons, List.nodup_append, List.mem_append, not_or, i1]
   refine ⟨⟨⟨d0, hk⟩, hr⟩, i4 nk hnew dk, nr, ?_⟩
   rintro a (ha | ha) b hb e'
   ·exact dr a ha (e' ▸ hb)
   ·exact hd a ha b hb e'
  ·rw [if_neg e]
   simp only [ids, List.mem_cons, List.mem_append] at hp
   by_cases hpk : p ∈ ks.ids
   ·have hpr : p ∉ r.ids := fun h => hd p hpk p h rfl
    rw [upd_not r p _ hpr]
    simp only [ids, List.nodup_cons, List.nodup_append, List.mem_append, not_or, ids_upd_ins ks p pos new hpk nk]
    refine ⟨⟨⟨d0, hk⟩, hr⟩, nodup_upd_ins ks p pos new nk hnew dk hpk, nr, ?_⟩
    rintro a (ha | ha) b hb e'
    ·exact dr a ha (e' ▸ hb)
    ·exact hd a ha b hb e'
   ·have hpr : p ∈ r.ids := by
     rcases hp with h | h | h
     ·exact absurd h.symm e
     ·exact absurd h hpk
     ·exact h
    rw [upd_not ks p _ hpk]
    simp only [ids, List.nodup_cons, List.nodup_append, List.mem_append, not_or, ids_upd_ins r p pos new hpr nr]
    refine ⟨⟨hk, d0, hr⟩, nk, nodup_upd_ins r p pos new nr hnew dr hpr, ?_⟩
    rintro a ha b (hb | hb) e'
    ·exact dk b hb (e' ▸ ha)
    ·exact hd a ha b hb e'
theorem ent_upd_ins : ∀ (f : Fo) (p q : Int) (pos : Nat) (new : Fo), f.ids.Nodup → (∀ x ∈ new.ids, x ∉ f.ids) → p ∈ f.ids → (f.upd p (insAt pos new)).ent q = addG (f.ent q) p pos new
 | nil, _, _, _, _, _, _, h => by simp [ids] at h
 | cons id d ks r, p, q, pos, new, hn, hdis, hp => by
  simp only [ids, List.nodup_cons, List.nodup_append, List.mem_append, not_or] at hn
  obtain ⟨⟨hk, hr⟩, nk, nr, hd⟩ := hn
  have d0 : id ∉ new.ids := fun h => hdis id h (by simp [ids])
  have dk : ∀ x ∈ new.ids, x ∉ ks.ids := fun x h h' => hdis x h (by simp [ids, h'])
  have dr : ∀ x ∈ new.ids, x ∉ r.ids := fun x h h' => hdis x h (by simp [ids, h'])
  funext x
  rw [upd]
  unfold addG
  by_cases e : id = p
  ·subst e
   rw [if_pos rfl, ent]
   obtain ⟨_, i2, _, _, i5⟩ := insAt_facts pos new ks
   by_cases hx : x = id
   ·subst hx
    rw [if_pos rfl, ent_not new x x d0, if_pos rfl, ent, if_pos rfl, i2]; rfl
   ·rw [if_neg hx, if_neg hx, i5 dk id x, ent, if_neg hx]
    cases new.ent id x <;> rfl
  ·rw [if_neg e, ent]
   simp only [ids, List.mem_cons, List.mem_append] at hp
   have hpi : p ≠ id := fun h => e h.symm
   by_cases hx : x = id
   ·subst hx
    rw [if_pos rfl, ent_not new p x d0, roots_upd]
    simp only [if_neg e]
    rw [ent, if_pos rfl]
   ·have e1 : (cons id d ks r).ent q x = match ent id ks x with
      | some e => some e
      | none => ent q r x := by
       rw [ent, if_neg hx]
       try (cases ent id ks x <;> rfl)
    rw [if_neg hx, e1]
    by_cases hpk : p ∈ ks.ids
    ·have hpr : p ∉ r.ids := fun h => hd p hpk p h rfl
     rw [upd_not r p _ hpr, ent_upd_ins ks p id pos new nk dk hpk]
     unfold addG
     cases hnx : new.ent p x with
     | some e' => rfl
     | none =>
      simp only
      by_cases hxp : x = p
      ·subst hxp
       obtain ⟨ep, hep⟩ := ent_some ks id x hpk
       rw [if_pos rfl, if_pos rfl, ent, if_neg hpi, hep]; rfl
      ·rw [if_neg hxp, if_neg hxp]
       try (cases ent id ks x <;> rfl)
    ·have hpr : p ∈ r.ids := by
      rcases hp with h | h | h
      ·exact absurd h.symm e
      ·exact absurd h hpk
      ·exact h
     rw [upd_not ks p _ hpk, ent_upd_ins r p q pos new nr dr hpr]
     unfold addG
     cases hnx : new.ent p x with
     | some e' =>
      simp only
      rw [ent_not ks id x (dk x (ent_mem _ _ _ _ hnx))]
     | none =>
      simp only
      by_cases hxp : x = p
      ·subst hxp
       rw [if_pos rfl, if_pos rfl, ent_not ks id x hpk, ent, if_neg hpi, ent_not ks id x hpk]
      ·rw [if_neg hxp, if_neg hxp]
       try (cases ent id ks x <;> rfl)
end Fo
end
section
def topOf (prev : Option ItemD) : Int := match prev with
 | none => 0
 | some p => p.level + 1
def isText (prev : Option ItemD) : Bool := match prev with
 | none => false
 | some p => p.kind == 2
def foE (prev : Option ItemD) (x : ItemD) : Int := if x.level < 0 ∨ topOf prev < x.level ∨ (isText prev = true ∧ x.level = topOf prev) then 69 else partsE x
def forestF (prev : Option ItemD) (dp : Int) : List ItemD → Int × Int
 | [] => (dp, 0)
 | x :: r => if foE prev x = 0 then forestF (some x) (max dp x.level) r else (0, foE prev x)
def forestL (l : List ItemD) : Int × Int := if l = [] then (0, 40) else forestF none 0 l
theorem forestF_drop {l : List ItemD} {k : Nat} {x : ItemD} {dp : Int} (hx : l[k]? = some x) : forestF (prevOf l k) dp (l.drop k) = if foE (prevOf l k) x = 0 then forestF (prevOf l (k + 1)) (max dp x.level) (l.drop (k + 1)) else (0, foE (prevOf l k) x) := by
 rw [drop_cons hx, prevOf_succ hx]; rfl
def headX : ItemD := ⟨0, 1, [120], [], []⟩
theorem parts_level (x : ItemD) (lv : Int) : partsE { x with level := lv } = partsE x := rfl
theorem nameX : nameL [120] = true := by decide
theorem check_two (x : ItemD) : checkL [headX, { x with level := 1 }] = if partsE x = 0 then (0, 0) else (1, partsE x) := by
 have h0 : oneE none 0 headX = 0 := by
  unfold oneE placeE headX partsE namesE
  simp [nameX, attrNames, valuesE]
 have h1 : oneE (some headX) 1 { x with level := 1 } = partsE x := by
  unfold oneE
  have : placeE (some headX) 1 { x with level := 1 } = 0 := by unfold placeE headX; simp
  rw [if_pos this, parts_level]
 unfold checkL
 rw [if_neg (by simp)]
 unfold checkF
 rw [if_pos h0]
 unfold checkF
 rw [h1]
 by_cases hp : partsE x = 0
 ·rw [if_pos hp, if_pos hp]; rfl
 ·rw [if_neg hp, if_neg hp]; rfl
theorem foE_zero {prev : Option ItemD} {x : ItemD} (h : foE prev x = 0) : 0 ≤ x.level ∧ x.level ≤ topOf prev ∧ partsE x = 0 ∧ ¬ (isText prev = true ∧ x.level = topOf prev) := by
 unfold foE at h
 split at h
 ·omega
 ·rename_i hn
  exact ⟨by omega, by omega, h, fun h' => hn (.inr (.inr h'))⟩
end
section
def stepOk (p x : ItemD) : Prop := x.level ≤ p.level + (if p.kind = 2 then 0 else 1)
def Steps : List ItemD → Prop
 | [] => True
 | [_] => True
 | a :: b :: r => stepOk a b ∧ Steps (b :: r)
def Fo.Leaf : Fo → Prop
 | .nil => True
 | .cons _ d ks r => (d.kind = 2 → ks = .nil) ∧ Leaf ks ∧ Leaf r
theorem Steps.tail {a : ItemD} {l : List ItemD} (h : Steps (a :: l)) : Steps l := by
 cases l with
 | nil => trivial
 | cons b r => exact h.2
theorem Steps.head {a : ItemD} {l : List ItemD} (h : Steps (a :: l)) : ∀ b ∈ l.head?, stepOk a b := by
 cases l with
 | nil => intro b hb; simp at hb
 | cons c r => intro b hb; simp at hb; subst hb; exact h.1
theorem Steps.cons {a : ItemD} {l : List ItemD} (h : Steps l) (hb : ∀ b ∈ l.head?, stepOk a b) : Steps (a :: l) := by
 cases l with
 | nil => trivial
 | cons b r => exact ⟨hb b (by simp), h⟩
theorem Steps.left : ∀ (A B : List ItemD), Steps (A ++ B) → Steps A
 | [], _, _ => trivial
 | a :: A, B, h => by
  have h1 := Steps.left A B h.tail
  refine h1.cons fun b hb => ?_
  refine Steps.head h b ?_
  cases A with
  | nil => simp at hb
  | cons c A => simpa using hb
theorem Steps.right : ∀ (A B : List ItemD), Steps (A ++ B) → Steps B
 | [], _, h => h
 | _ :: A, B, h => Steps.right A B h.tail
theorem Steps.app : ∀ (A B : List ItemD), Steps A → Steps B → (∀ a ∈ A.getLast?, ∀ b ∈ B.head?, stepOk a b) → Steps (A ++ B)
 | [], _, _, hB, _ => hB
 | [a], B, _, hB, h => Steps.cons hB (h a (by simp))
 | a :: b :: A, B, hA, hB, h => ⟨hA.1, Steps.app (b :: A) B hA.2 hB (fun x hx => h x (by simpa [List.getLast?_cons_cons] using hx))⟩
theorem build : ∀ (n : Nat) (L : List RowD) (lv : Int), L.length ≤ n → (∀ r ∈ L, lv ≤ r.x.level) → (∀ r ∈ L.head?, r.x.level = lv) → Steps (L.map (·.x)) → ∃ F : Fo, F.flat lv = L ∧ F.Leaf
 | _, [], _, _, _, _, _ => ⟨.nil, rfl, trivial⟩
 | 0, _ :: _, _, h, _, _, _ => by simp at h
 | n + 1, r0 :: T, lv, hn, hge, hhd, hst => by
  have h0 : r0.x.level = lv := hhd r0 (by simp)
  obtain ⟨K, hK⟩ : ∃ K, K = T.takeWhile (fun r => decide (lv < r.x.level)) := ⟨_, rfl⟩
  obtain ⟨R, hR⟩ : ∃ R, R = T.dropWhile (fun r => decide (lv < r.x.level)) := ⟨_, rfl⟩
  have hT : T = K ++ R := by rw [hK, hR, List.takeWhile_append_dropWhile]
  have hKlv : ∀ r ∈ K, lv < r.x.level := fun r hr => by
   rw [hK] at hr
   have := List.all_takeWhile (p := fun r : RowD => decide (lv < r.x.level)) (l := T)
   rw [List.all_eq_true] at this
   simpa using this r hr
  have hRhd : ∀ r ∈ R.head?, r.x.level = lv := fun r hr => by
   have h1 : ¬ (lv < r.x.level) := by
    have := List.head?_dropWhile_not (fun r : RowD => decide (lv < r.x.level)) T
    rw [← hR, Option.mem_def.1 hr] at this
    simpa using this
   have h2 := hge r (by rw [hT]; exact List.mem_cons_of_mem _ (List.mem_append_right _ (List.mem_of_mem_head? hr)))
   omega
  rw [List.map_cons, hT, List.map_append] at hst
  have hlen : K.length + R.length ≤ n := by
   have := congrArg List.length hT
   simp at this hn; omega
  have hKhd : ∀ r ∈ K.head?, r.x.level = lv + 1 ∧ r0.x.kind ≠ 2 := fun r hr => by
   have h1 := hKlv r (List.mem_of_mem_head? hr)
   have h2 := Steps.head hst r.x (by
    cases K with
    | nil => simp at hr
    | cons a K => simp at hr; subst hr; simp)
   unfold stepOk at h2
   rw [h0] at h2
   split at h2 <;> omega
  obtain ⟨F1, f1, f2⟩ := build n K (lv + 1) (by omega) (fun r hr => hKlv r hr) (fun r hr => (hKhd r hr).1) (Steps.left _ _ hst.tail)
  obtain ⟨F2, g1, g2⟩ := build n R lv (by omega) (fun r hr => hge r (by rw [hT]; exact List.mem_cons_of_mem _ (List.mem_append_right _ hr))) hRhd (Steps.right _ _ hst.tail)
  refine ⟨.cons r0.id r0.x.node F1 F2, ?_, ⟨fun hk => ?_, f2, g2⟩⟩
  ·rw [Fo.flat, f1, g1, hT, ← h0, node_at]
  ·cases F1 with
   | nil => rfl
   | cons id d ks r =>
    exfalso
    rw [Fo.flat] at f1
    exact (hKhd ⟨id, d.at (lv + 1)⟩ (by rw [← f1]; simp)).2 hk
/-! ## Check -/
def okC (prev : Option ItemD) (k : Nat) : List ItemD → Prop
 | [] => True
 | x :: r => oneE prev k x = 0 ∧ okC (some x) (k + 1) r
theorem checkF_okC : ∀ (l : List ItemD) (prev : Option ItemD) (k : Nat), (checkF prev k l).2 = 0 ↔ okC prev k l
 | [], _, _ => by simp [checkF, okC]
 | x :: r, prev, k => by
  unfold checkF okC
  by_cases h : oneE prev k x = 0
  ·rw [if_pos h, checkF_okC r (some x) (k + 1)]
   simp [h]
  ·rw [if_neg h]
   simp [h]
theorem place_ok (p : ItemD) (k : Nat) (x : ItemD) : placeE (some p) k x = 0 ↔ (stepOk p x ∧ 1 ≤ x.level ∧ x.level < 40 ∧ k < 1000) := by
 unfold placeE stepOk
 simp only
 by_cases h1 : x.level < 1 ∨ p.level + 1 < x.level ∨ (p.level < x.level ∧ p.kind = 2)
 ·rw [if_pos h1]
  refine ⟨fun h => (by cases h), fun h => ?_⟩
  obtain ⟨h2, h3, _⟩ := h
  split at h2 <;> omega
 ·rw [if_neg h1]
  by_cases h2 : 40 ≤ x.level
  ·rw [if_pos h2]
   exact ⟨fun h => (by cases h), fun h => (by omega)⟩
  ·rw [if_neg h2]
   by_cases h3 : 1000 ≤ k
   ·rw [if_pos h3]
    exact ⟨fun h => (by cases h), fun h => (by omega)⟩
   ·rw [if_neg h3]
    refine ⟨fun _ => ⟨?_, by omega, by omega, by omega⟩, fun _ => rfl⟩
    split <;> omega
theorem okC_some : ∀ (l : List ItemD) (p : ItemD) (k : Nat), okC (some p) k l ↔ (Steps (p :: l) ∧ (∀ x ∈ l, 1 ≤ x.level ∧ x.level < 40 ∧ partsE x = 0) ∧ (l = [] ∨ k + l.length ≤ 1000))
 | [], p, k => by simp [okC, Steps]
 | x :: r, p, k => by
  have ho : oneE (some p) k x = 0 ↔ (stepOk p x ∧ 1 ≤ x.level ∧ x.level < 40 ∧ k < 1000 ∧ partsE x = 0) := by
   have hp := place_ok p k x
   unfold oneE
   by_cases h : placeE (some p) k x = 0
   ·rw [if_pos h]
    have := hp.1 h
    exact ⟨fun h' => ⟨this.1, this.2.1, this.2.2.1, this.2.2.2, h'⟩, fun h' => h'.2.2.2.2⟩
   ·rw [if_neg h]
    exact ⟨fun h' => absurd h' h, fun h' => absurd (hp.2 ⟨h'.1, h'.2.1, h'.2.2.1, h'.2.2.2.1⟩) h⟩
  unfold okC
  rw [ho, okC_some r x (k + 1)]
  constructor
  ·rintro ⟨⟨h1, h2, h3, h4, h5⟩, h6, h7, h8⟩
   refine ⟨⟨h1, h6⟩, fun z hz => ?_, .inr ?_⟩
   ·rcases List.mem_cons.1 hz with rfl | hz
    ·exact ⟨h2, h3, h5⟩
    ·exact h7 z hz
   ·rcases h8 with rfl | h8
    ·simp; omega
    ·simp; omega
  ·rintro ⟨h1, h2, h3⟩
   have hx := h2 x (by simp)
   have h3' : k + (r.length + 1) ≤ 1000 := by
    rcases h3 with h3 | h3
    ·cases h3
    ·simpa using h3
   exact ⟨⟨h1.1, hx.1, hx.2.1, by omega, hx.2.2⟩, h1.2, fun z hz => h2 z (by simp [hz]), .inr (by omega)⟩
theorem check_ok (l : List ItemD) : (checkL l).2 = 0 ↔ ∃ x r, l = x :: r ∧ x.level = 0 ∧ x.kind = 1 ∧ Steps l ∧ (∀ z ∈ r, 1 ≤ z.level) ∧ (∀ z ∈ l, z.level < 40 ∧ partsE z = 0) ∧ l.length ≤ 1000 := by
 unfold checkL
 cases l with
 | nil => simp
 | cons x r =>
  rw [if_neg (by simp), checkF_okC]
  unfold okC
  rw [okC_some]
  have ho : oneE none 0 x = 0 ↔ (x.level = 0 ∧ x.kind = 1 ∧ partsE x = 0) := by
   unfold oneE placeE
   simp only
   by_cases h : x.level ≠ 0 ∨ x.kind ≠ 1
   ·rw [if_pos h, if_neg (by decide)]
    constructor
    ·intro h'; cases h'
    ·rintro ⟨h1, h2, _⟩
     rcases h with h | h
     ·exact absurd h1 h
     ·exact absurd h2 h
   ·rw [if_neg h, if_pos rfl]
    constructor
    ·intro h'
     exact ⟨by omega, by omega, h'⟩
    ·exact fun h' => h'.2.2
  rw [ho]
  constructor
  ·rintro ⟨⟨h1, h2, h3⟩, h4, h5, h6⟩
   refine ⟨x, r, rfl, h1, h2, h4, fun z hz => (h5 z hz).1, fun z hz => ?_, ?_⟩
   ·rcases List.mem_cons.1 hz with rfl | hz
    ·exact ⟨by omega, h3⟩
    ·exact (h5 z hz).2
   ·rcases h6 with rfl | h6
    ·simp
    ·simp at h6 ⊢; omega
  ·rintro ⟨x', r', h0, h1, h2, h3, h4, h5, h6⟩
   injection h0 with h0 h0'
   subst h0; subst h0'
   refine ⟨⟨h1, h2, (h5 x (by simp)).2⟩, h3, fun z hz => ⟨h4 z hz, h5 z (by simp [hz])⟩, .inr ?_⟩
   simp at h6; omega
/-! ## Forests -/
theorem forestF_ok : ∀ (l : List ItemD) (p : ItemD) (dp n : Int), 0 ≤ p.level → forestF (some p) dp l = (n, 0) → Steps (p :: l) ∧ (∀ x ∈ l, 0 ≤ x.level ∧ partsE x = 0) ∧ dp ≤ n ∧ (∀ x ∈ l, x.level ≤ n) ∧ (n = dp ∨ ∃ x ∈ l, n = x.level)
 | [], p, dp, n, _, h => by
  simp only [forestF, Prod.mk.injEq, and_true] at h
  subst h
  exact ⟨trivial, by simp, Int.le_refl _, by simp, .inl rfl⟩
 | x :: r, p, dp, n, hp, h => by
  unfold forestF at h
  by_cases h0 : foE (some p) x = 0
  ·rw [if_pos h0] at h
   obtain ⟨q1, q2, q3, q4⟩ := foE_zero h0
   simp only [topOf] at q2 q4
   obtain ⟨k1, k2, k3, k4, k5⟩ := forestF_ok r x (max dp x.level) n q1 h
   refine ⟨⟨?_, k1⟩, fun z hz => ?_, by omega, fun z hz => ?_, ?_⟩
   ·unfold stepOk
    by_cases hk : p.kind = 2
    ·rw [if_pos hk]
     have : ¬ (x.level = p.level + 1) := fun h' => q4 ⟨by simp [isText, hk], h'⟩
     omega
    ·rw [if_neg hk]; omega
   ·rcases List.mem_cons.1 hz with rfl | hz
    ·exact ⟨q1, q3⟩
    ·exact k2 z hz
   ·rcases List.mem_cons.1 hz with rfl | hz
    ·omega
    ·exact k4 z hz
   ·rcases k5 with k5 | ⟨z, hz, k5⟩
    ·by_cases hm : dp ≤ x.level
     ·exact .inr ⟨x, by simp, by omega⟩
     ·exact .inl (by omega)
    ·exact .inr ⟨z, by simp [hz], k5⟩
  ·rw [if_neg h0] at h
   injection h with _ h
   exact absurd h h0
theorem forest_ok (l : List ItemD) (n : Int) (h : forestL l = (n, 0)) : ∃ x r, l = x :: r ∧ x.level = 0 ∧ Steps l ∧ (∀ z ∈ l, 0 ≤ z.level ∧ partsE z = 0) ∧ 0 ≤ n ∧ (∀ z ∈ l, z.level ≤ n) ∧ ∃ z ∈ l, n = z.level := by
 unfold forestL at h
 cases l with
 | nil => simp at h
 | cons x r =>
  rw [if_neg (by simp)] at h
  unfold forestF at h
  by_cases h0 : foE none x = 0
  ·rw [if_pos h0] at h
   obtain ⟨q1, q2, q3, q4⟩ := foE_zero h0
   simp only [topOf] at q2
   obtain ⟨k1, k2, k3, k4, k5⟩ := forestF_ok r x (max 0 x.level) n q1 h
   refine ⟨x, r, rfl, by omega, k1, fun z hz => ?_, by omega, fun z hz => ?_, ?_⟩
   ·rcases List.mem_cons.1 hz with rfl | hz
    ·exact ⟨q1, q3⟩
    ·exact k2 z hz
   ·rcases List.mem_cons.1 hz with rfl | hz
    ·omega
    ·exact k4 z hz
   ·rcases k5 with k5 | ⟨z, hz, k5⟩
    ·exact ⟨x, by simp, by omega⟩
    ·exact ⟨z, by simp [hz], k5⟩
  ·rw [if_neg h0] at h
   injection h with _ h
   exact absurd h h0
theorem names_small {x : ItemD} (h : namesE x = 0) : x.attrs.length ≤ 20 := by
 unfold namesE at h
 split at h
 ·split at h
  ·cases h
  ·omega
 ·cases h
theorem parts_small {x : ItemD} (h : partsE x = 0) : x.attrs.length ≤ 20 := by
 unfold partsE at h
 split at h
 ·rename_i h1; rw [h1.2.2]; simp
 ·split at h
  ·cases h
  ·split at h
   ·rename_i h1; exact names_small h1
   ·rename_i h1; exact absurd h h1
end
end Go.Proofs.YtmkgajdgnmolkaaGreat
