/-
  Texts of this claim, joined (by a program of the claim's author): WSel, WTstP, WTst, WTsw, WDepP, WDep.
-/
import Derived.Test.YtcombcoilpmnkaaGreatWD1
import Derived.Test.YtcombcoilpmnkaaGreatWD17
import Derived.Test.YtcombcoilpmnkaaGreatWD12
namespace Go.Proofs.YtcombcoilpmnkaaGreat
set_option maxRecDepth 100000
set_option maxHeartbeats 16000000
section
open Go.RowKit Go.Shelf
theorem small_any (A : Option Addr) (n c : Nat) (w : World) (r : Bool) (hr : Hid (decide ((n : Int) ≤ 40) = r)) : Calls Tryz.prog 11 #[.slice A n c] w (Ret w (.bool r)) := by
 go_enter Tryz.func11, Tryz.ntmps11
 go_wp2_with fail
 go_ret
 rw [← hr.out]
 exact ⟨rfl, Below.refl _ _⟩
end
section
def sT (axis test : Int) : StepD := ⟨axis, test, [], []⟩
section
variable {f : Fo} {next : Int}
def reachW (f : Fo) (G : Int → Bool) (axis y : Int) : Bool := (0 :: f.ids).any fun id => G id && decide (y ∈ axisW f axis id)
theorem filter_two {α : Type} (A p : α → Bool) : ∀ l : List α, (l.filter A).length = (l.filter fun x => A x && p x).length + (l.filter fun x => A x && !p x).length
 | [] => rfl
 | x :: l => by
  have := filter_two A p l
  simp only [List.filter_cons]
  cases A x <;> cases p x <;> simp <;> omega
end
end
section
open Go.RowKit Go.Shelf
theorem step_append {P : Program} {ops : Array Oper} {o : Oper} {a : Act} {w : World} {K : Act → World → Prop} {Q : Exit → Act → World → Prop} {E : Prop}
  (hg : o.guard = none) (s x : Operand) (t : TypeId) (hop : o.op = Op.call { callee := Callee.builtin Builtin.append, args := #[s, x], argTypes := #[t, t] })
  (v u : Value) (hs : a.eval s = v) (hx : a.eval x = u) {v' : Value} {w' : World} (hr : (Builtin.append_ #[t, t] o.type #[v, u]).run P w = .ok v' w') (hK : K (a.put o.dst v') w') :
  if Region.wanted o (yielded ops a.tmps) = true then Oper.wp P o a w K Q else E := by
 have hw : Region.wanted o (yielded ops a.tmps) = true := by simp [Region.wanted, hg]
 rw [if_pos hw]
 unfold Oper.wp execOp
 simp only [hop, resolve, invoke, builtin, Sem.run_bind, Sem.run_pure, Result.andThen_ok, List.map_toArray, List.map_cons, List.map_nil, hs, hx, hr]
 exact hK
theorem two_appends2 {w : World} {B N e b : Nat} (s : List StepD) (As : Option Addr) (cs : Nat) (hA : StepsAt w B As s) (hB : B ≤ N) (hNw : N ≤ w.heap.size) (hl : s.length ≤ 100000) (x : QSlot) (hx : PredsAt w B x.2.1 x.1.preds) (hxc : x.1.preds.length ≤ x.2.2)
  (he : w.heap[e]? = some (.cells #[] 45 (0, 0))) (hb : w.heap[b]? = some (.cells (slotC x) 45 (0, 0))) (hne : b ≠ e) (hN : N ≤ e) :
  ∃ pa pc w2 pb pn pd w4, (Builtin.append_ #[23, 23] 23 #[.slice (some ⟨e, 0, none⟩) 0 0, .slice As s.length cs]).run Tryz.prog w = .ok (.slice pa s.length pc) w2 ∧
   (Builtin.append_ #[23, 23] 23 #[.slice pa s.length pc, .slice (some ⟨b, 0, none⟩) 1 1]).run Tryz.prog w2 = .ok (.slice pb pn pd) w4 ∧ pn = (s ++ [x.1]).length ∧ StepsAt w4 w4.heap.size pb (s ++ [x.1]) ∧ Below N w w4 ∧ Below N w w2 := by
 obtain ⟨T, hT1, hT2, hT3⟩ := steps_slots hA
 have hTl : T.length = s.length := by rw [← hT1, List.length_map]
 have hown : StepsOwn w 0 (some ⟨e, 0, none⟩) 0 [] := ⟨by simp, .inr ⟨e, 0, #[], rfl, Nat.zero_le _, he, by simp, by simp, by simp⟩⟩
 obtain ⟨pa, pn, pc, w2, hr, hpn, ho2, hg2, hf2⟩ := run_append_steps hown T As cs hT3 (by simp) (by omega)
 have hpn' : pn = s.length := by rw [hpn]; simpa using hTl
 subst hpn'
 have hlt := (Array.getElem?_eq_some_iff.1 he).1
 have hb2 : Below N w w2 := (Below.refl N w).grown hg2 hNw (fun j hj => by have hj : e = j := Option.some.inj hj; omega)
 have hS2 : ([] ++ T : List QSlot) = T := rfl
 rw [hS2] at ho2 hf2
 have hx2 : w2.heap[b]? = some (.cells (slotC x) 45 (0, 0)) := (hg2.block b (Array.getElem?_eq_some_iff.1 hb).1 (fun h => hne (Option.some.inj h))).trans hb
 obtain ⟨pb, pm, pd, w4, hr4, hpm, ho4, hg4, hf4⟩ := run_append_steps ho2 [x] (some ⟨b, 0, none⟩) 1 (sl_one x hx2) (by omega) (by simp)
 have hb4 : Below N w w4 := hb2.grown hg4 (Nat.le_trans hNw hb2.size) (fun j hj => by
  rcases hf2 j (by simpa using hj) with h2 | h2
  ·have h2 : e = j := Option.some.inj h2; omega
  ·omega)
 have hp4 : SlP w4 B (T ++ [x]) := SlP.below (w := w) (SlP.app hT2 fun y hy => by rw [List.mem_singleton.1 hy]; exact ⟨hx, hxc⟩) (hb4.mono hB)
 have hat := StepsOwn.atW ho4 hp4 (Nat.le_trans hB (Nat.le_trans hNw hb4.size))
 rw [List.map_append, hT1] at hat
 exact ⟨pa, pc, w2, pb, pm, pd, w4, by simpa [hTl] using hr, by simpa [hTl] using hr4, by rw [hpm]; simp [hTl], hat, hb4, hb2⟩
section
variable {M : Nat → Prop} {t : Nat} {f : Fo} {next : Int}
end
end
section
open Go.RowKit Go.Shelf
theorem in_any (A : Option Addr) (c : Nat) (l : List Int) (x : Int) (w : World) (hr : intRow w (.slice A l.length c) l) (hl : l.length ≤ 1000000) (r : Bool) (hres : Hid (decide (x ∈ l) = r)) : Calls Tryz.prog 21 #[.slice A l.length c, .int .i64 x] w (Ret w (.bool r)) := by
 have HR := Lib.hid hr
 have l0 : (0 : Int) ≤ (l.length : Int) := by omega
 have l1 : (l.length : Int) ≤ 1000000 := by omega
 clear hr
 go_enter Tryz.func21, Tryz.ntmps21
 go_wp2_with fail
 go_loopw [9] (fun i wr => ∃ k : Nat, i = .int .i64 (k : Int) ∧ k ≤ l.length ∧ Hid (x ∉ l.take k) ∧ Hid (wr = w)) (fun i _ => l.length - (intOf i).toNat)
 case atStart => exact ⟨0, rfl, Nat.zero_le _, by show _ ∉ _; simp, rfl⟩
 case round =>
  obtain ⟨k, rfl, hk, hno, hw⟩ := hrel
  have hw' := hw.out
  subst hw'
  have k0 : (0 : Int) ≤ (k : Int) := by omega
  by_cases hkl : k < l.length
  ·have k1 : (k : Int) < (l.length : Int) := by omega
   obtain ⟨y, hy⟩ : ∃ y, Hid (l[k]? = some y) := ⟨l[k], List.getElem?_eq_getElem _⟩
   obtain ⟨g, hgA⟩ : ∃ g, A = some ⟨g, 0, none⟩ := by
    rcases HR.out.2 with ⟨_, h⟩ | ⟨g, cap, cur, h, _⟩
    ·omega
    ·injection h with h _ _; exact ⟨g, h⟩
   subst hgA
   have ck := own_cell HR.out k (.int .i64 y) (by rw [List.getElem?_map, hy.out]; rfl)
   by_cases hyx : y = x
   ·have hb : (y == x) = true := by simpa using hyx
    have HF : Hid (r = true) := by
     show _ = _
     rw [← hres.out]
     exact decide_eq_true (hyx ▸ List.mem_of_getElem? hy.out)
    clear hyx
    go_wp2_with fail
    go_ret
    exact ⟨by rw [HF.out]; rfl, Below.refl _ _⟩
   ·have hb : (y == x) = false := by simpa using hyx
    have HNO : Hid (x ∉ l.take (k + 1)) := by
     show _ ∉ _
     rw [List.take_add_one, hy.out, List.mem_append, not_or]
     exact ⟨hno.out, by simpa using fun e => hyx e.symm⟩
    clear hyx
    go_wp2_with fail
    go_roundw
    case rel => exact ⟨k + 1, by go_num, by omega, HNO.out, trivial⟩
    case measure => simp [intOf]; omega
  ·have k1 : ¬ (k : Int) < (l.length : Int) := by omega
   have HF : Hid (r = false) := by
    show _ = _
    rw [← hres.out]
    have := hno.out
    rw [List.take_of_length_le (by omega)] at this
    exact decide_eq_false this
   go_wp2_with fail
   go_ret
   exact ⟨by rw [HF.out]; rfl, Below.refl _ _⟩
theorem evalW_len {f : Fo} {next : Int} (h : InvF f next) (l : List StepD) : (evalW f l).length ≤ 1000 := by
 unfold evalW
 split
 ·have := List.length_filter_le (foundW f l fun x => decide (x = 0)) f.ids
  rw [Fo.ids_len] at this
  have := h.cnt
  omega
 ·simp
end
section
def sC : StepD := ⟨1, 4, [], []⟩
def sA (a : Int) (x : StepD) : StepD := ⟨a, x.test, x.name, []⟩
section
variable {f : Fo} {next : Int}
theorem anc_pos (h : InvF f next) {y : Int} (hy : y ∈ f.ids) : 1 ≤ (ancW f y).length := by rw [(anc_step h hy).1]; simp
theorem bool_ext {a b : Bool} (h : a = true ↔ b = true) : a = b := by cases a <;> cases b <;> simp_all
theorem found_chain (h : InvF f next) : ∀ (k : Nat) (y : Int), y ∈ 0 :: f.ids → foundW f (List.replicate k sC) (fun x => decide (x = 0)) y = decide ((ancW f y).length = k)
 | 0, y, hy => by
  refine bool_ext ?_
  show decide (y = 0) = true ↔ _
  rw [decide_eq_true_iff, decide_eq_true_iff]
  constructor
  ·rintro rfl; rw [anc_zero]; rfl
  ·intro hl
   rcases List.mem_cons.1 hy with rfl | hy
   ·rfl
   ·have := anc_pos h hy; omega
 | k + 1, y, hy => by
  rw [List.replicate_succ', foundW_app]
  refine bool_ext ?_
  rw [foundW, foundW, List.any_eq_true, decide_eq_true_iff]
  have hst : ∀ id, stepW f sC id = kidsW f id := fun id => by
   unfold stepW axisW testW predsW sC
   simp
  constructor
  ·rintro ⟨id, hid, hc⟩
   rw [found_chain h k id hid, hst, Bool.and_eq_true, decide_eq_true_iff, decide_eq_true_iff, kids_filter h hid] at hc
   obtain ⟨h1, h2⟩ := hc
   obtain ⟨h3, h4⟩ := List.mem_filter.1 h2
   have h4' : (entW f y).par = id := of_decide_eq_true h4
   rw [(anc_step h h3).1, h4', List.length_cons, h1]
  ·intro hl
   rcases List.mem_cons.1 hy with rfl | hy
   ·rw [anc_zero] at hl; cases hl
   ·obtain ⟨h1, h2⟩ := anc_step h hy
    rw [h1, List.length_cons] at hl
    refine ⟨_, h2, ?_⟩
    rw [found_chain h k _ h2, hst, kids_filter h h2, Bool.and_eq_true, decide_eq_true_iff, decide_eq_true_iff]
    exact ⟨by omega, List.mem_filter.2 ⟨hy, decide_eq_true rfl⟩⟩
theorem stepB_axis (x : StepD) {a b : Int} (ha : 1 ≤ a ∧ a ≤ 8) (hb : 1 ≤ b ∧ b ≤ 8) : stepB (sA a x) = stepB (sA b x) := by
 unfold stepB sA
 simp [ha, hb]
theorem right_one (s : StepD) : rightL [s] = stepB s := by unfold rightL; simp
theorem right_chain (x : StepD) {k : Nat} (hk : k ≤ 19) : rightL (List.replicate k sC ++ [sA 8 x]) = stepB (sA 8 x) := by
 unfold rightL
 rw [List.all_append, List.length_append, List.length_replicate]
 have e1 : (List.replicate k sC).all stepB = true := List.all_eq_true.2 fun y hy => by rw [(List.mem_replicate.1 hy).2]; decide
 have e2 : decide (1 ≤ k + [sA 8 x].length ∧ k + [sA 8 x].length ≤ 20) = true := decide_eq_true ⟨by simp, by simp; omega⟩
 rw [e1, e2]
 simp
theorem eval_below (x : StepD) (hb : stepB (sA 2 x) = true) : evalW f [sA 2 x] = f.ids.filter (fun y => testW x (entW f y).d) ∧ evalW f [sA 3 x] = f.ids.filter (fun y => testW x (entW f y).d) := by
 have hb3 : stepB (sA 3 x) = true := (stepB_axis x (by omega) (by omega)).trans hb
 have hbl : belowW f 0 = f.ids := by simp [belowW, Dw, Fo.beneath]
 have key : ∀ (a : Int) (l : List Int), stepB (sA a x) = true → axisW f a 0 = l → (∀ y ∈ f.ids, y ∈ l) → evalW f [sA a x] = f.ids.filter (fun y => testW x (entW f y).d) := fun a l h1 h2 h3 => by
  unfold evalW
  rw [right_one, if_pos h1]
  refine List.filter_congr fun y hy => bool_ext ?_
  rw [foundW, foundW, List.any_eq_true]
  have hst : ∀ id, y ∈ stepW f (sA a x) id ↔ y ∈ axisW f a id ∧ testW x (entW f y).d = true := fun id => by
   unfold stepW
   rw [show (sA a x).preds = [] from rfl, predsW, List.mem_filter]
   exact Iff.rfl
  constructor
  ·rintro ⟨id, _, hc⟩
   rw [Bool.and_eq_true, decide_eq_true_iff, decide_eq_true_iff, hst] at hc
   exact hc.2.2
  ·intro hT
   refine ⟨0, List.mem_cons_self, ?_⟩
   rw [Bool.and_eq_true, decide_eq_true_iff, decide_eq_true_iff, hst, h2]
   exact ⟨rfl, h3 y hy, hT⟩
 exact ⟨key 2 _ hb (by simp [axisW, hbl]) fun y hy => hy, key 3 _ hb3 (by simp [axisW, hbl]; rfl) fun y hy => List.mem_cons_of_mem _ hy⟩
theorem eval_chain (h : InvF f next) (x : StepD) (hb : stepB (sA 2 x) = true) {k : Nat} (hk : k ≤ 19) : evalW f (List.replicate k sC ++ [sA 8 x]) = f.ids.filter (fun y => testW x (entW f y).d && decide ((ancW f y).length = k)) := by
 unfold evalW
 rw [right_chain x hk, if_pos ((stepB_axis x (by omega) (by omega)).trans hb)]
 refine List.filter_congr fun y hy => bool_ext ?_
 have hy' := List.mem_cons_of_mem 0 hy
 rw [foundW_app, foundW, foundW, List.any_eq_true]
 have hst : ∀ id, y ∈ stepW f (sA 8 x) id ↔ y = id ∧ testW x (entW f y).d = true := fun id => by
  unfold stepW
  rw [show (sA 8 x).preds = [] from rfl, predsW, List.mem_filter]
  have : axisW f (sA 8 x).axis id = [id] := by simp [axisW, sA]
  rw [this, List.mem_singleton]
  exact Iff.rfl
 constructor
 ·rintro ⟨id, hid, hc⟩
  rw [Bool.and_eq_true, decide_eq_true_iff, hst] at hc
  obtain ⟨h1, rfl, h2⟩ := hc
  rw [found_chain h k y hid] at h1
  rw [h2, h1]; rfl
 ·intro hc
  rw [Bool.and_eq_true] at hc
  refine ⟨y, hy', ?_⟩
  rw [Bool.and_eq_true, decide_eq_true_iff, hst, found_chain h k y hy']
  exact ⟨hc.2, rfl, hc.1⟩
def metW (f : Fo) (x : StepD) (k : Nat) : Nat := (f.ids.filter fun y => testW x (entW f y).d && decide ((ancW f y).length ≤ k)).length
theorem met_zero (h : InvF f next) (x : StepD) : metW f x 0 = 0 := by
 unfold metW
 rw [List.filter_eq_nil_iff.2 fun y hy => by have := anc_pos h hy; simp; intro _ h0; rw [h0] at this; simp at this]
 rfl
theorem met_step (h : InvF f next) (x : StepD) (hb : stepB (sA 2 x) = true) {k : Nat} (hk : k + 1 ≤ 19) : metW f x (k + 1) = metW f x k + (evalW f (List.replicate (k + 1) sC ++ [sA 8 x])).length := by
 rw [eval_chain h x hb hk]
 unfold metW
 rw [filter_two (fun y => testW x (entW f y).d && decide ((ancW f y).length ≤ k + 1)) (fun y => decide ((ancW f y).length ≤ k)) f.ids]
 congr 2
 ·refine List.filter_congr fun y _ => ?_
  by_cases e : (ancW f y).length ≤ k
  ·have e' : (ancW f y).length ≤ k + 1 := by omega
   simp [e, e']
  ·simp [e]
 ·refine List.filter_congr fun y _ => ?_
  by_cases e : (ancW f y).length = k + 1
  ·simp [e]
  ·by_cases e' : (ancW f y).length ≤ k
   ·simp [e', e]
   ·have e'' : ¬ (ancW f y).length ≤ k + 1 := by omega
    simp [e'', e]
theorem met_le (f : Fo) (x : StepD) (k : Nat) : metW f x k ≤ (f.ids.filter fun y => testW x (entW f y).d).length := by
 unfold metW
 rw [show (f.ids.filter fun y => testW x (entW f y).d && decide ((ancW f y).length ≤ k)) = (f.ids.filter fun y => testW x (entW f y).d).filter (fun y => decide ((ancW f y).length ≤ k)) by
  rw [List.filter_filter]
  exact List.filter_congr fun y _ => Bool.and_comm _ _]
 exact List.length_filter_le _ _
theorem met_deep (_ : InvF f next) (x : StepD) (hne : metW f x 19 ≠ (f.ids.filter fun y => testW x (entW f y).d).length) : 19 ≤ f.cnt := by
 refine Classical.byContradiction fun hc => hne ?_
 unfold metW
 congr 1
 refine List.filter_congr fun y hy => ?_
 have := anc_len f y
 have e : (ancW f y).length ≤ 19 := by omega
 simp [e]
end
end
section
open Go.RowKit Go.Shelf
def ChainAt (w : World) (A : Option Addr) (c k : Nat) : Prop := w.ownsRow 0 45 4 (.slice A k c) k ((List.replicate k ((sC, none, 0) : QSlot)).flatMap cellsS)
theorem chain_own {w : World} {A : Option Addr} {c k : Nat} (h : ChainAt w A c k) : StepsOwn w 0 A c (List.replicate k (sC, none, 0)) := by
 unfold StepsOwn
 rw [List.length_replicate]
 exact h
theorem chain_at {w : World} {A : Option Addr} {c k : Nat} (h : ChainAt w A c k) : StepsAt w w.heap.size A (List.replicate k sC) := by
 have := StepsOwn.atW (B := w.heap.size) (chain_own h) (fun x hx => by rw [(List.mem_replicate.1 hx).2]; exact ⟨fun h => by simp [sC] at h, by simp [sC]⟩) (Nat.le_refl _)
 rwa [List.map_replicate] at this
theorem chain_grow {w : World} {A : Option Addr} {c k : Nat} (h : ChainAt w A c k) (hk : k ≤ 1000) :
  ∃ pa pc w', (Builtin.append_ #[23, 23] 23 #[.slice A k c, .slice (some ⟨w.heap.size, 0, none⟩) 1 1]).run Tryz.prog (w.alloc (.cells #[.int .i64 1, .int .i64 4, .string ⟨#[]⟩, .slice none 0 0] 45)) = .ok (.slice pa (k + 1) pc) w' ∧ ChainAt w' pa pc (k + 1) ∧
   (∀ b, (Value.slice pa (k + 1) pc).ownBlock = some b → (Value.slice A k c).ownBlock = some b ∨ w.heap.size ≤ b) ∧ w.grownBy w' (Value.slice A k c).ownBlock := by
 have hb : Below w.heap.size w (w.alloc (.cells #[.int .i64 1, .int .i64 4, .string ⟨#[]⟩, .slice none 0 0] 45)) := (Below.refl _ w).alloc (Nat.le_refl _) _
 have ho : StepsOwn (w.alloc (.cells #[.int .i64 1, .int .i64 4, .string ⟨#[]⟩, .slice none 0 0] 45)) 0 A c (List.replicate k (sC, none, 0)) := by
  have h1 := chain_own h
  exact row_block h1 fun b hb' => hb.block b (row_lt h1 hb')
 obtain ⟨pa, pn, pc, w', hr, hpn, ho', hg, hf⟩ := run_append_steps ho [(sC, none, 0)] (some ⟨w.heap.size, 0, none⟩) 1 (sl_one (sC, none, 0) (heap_alloc_new w _)) (by simp; omega) (by simp)
 have e : List.replicate k ((sC, none, 0) : QSlot) ++ [(sC, none, 0)] = List.replicate (k + 1) (sC, none, 0) := List.replicate_succ'.symm
 rw [e] at hpn ho' hf
 simp only [List.length_replicate] at hpn hf hg
 subst hpn
 refine ⟨pa, pc, w', by simpa using hr, ?_, fun b hb' => ?_, ⟨hg.os.trans hb.os, hg.tape.trans hb.tape, hg.output.trans hb.output, Nat.le_trans hb.size hg.size, fun b hb' hne => (hg.block b (Nat.lt_of_lt_of_le hb' hb.size) hne).trans (hb.block b hb')⟩⟩
 ·unfold StepsOwn at ho'
  rw [List.length_replicate] at ho'
  exact ho'
 ·rcases hf b hb' with h' | h'
  ·exact .inl h'
  ·have := hb.size; exact .inr (by omega)
theorem at_one {w : World} {b : Nat} {s : StepD} (hp : s.preds = []) (h : w.heap[b]? = some (.cells (slotC (s, none, 0)) 45 (0, 0))) : StepsAt w w.heap.size (some ⟨b, 0, none⟩) [s] := fun _ => ⟨_, rfl, (Array.getElem?_eq_some_iff.1 h).1, fun k z hz => by
 have hk : k = 0 := by have := (List.getElem?_eq_some_iff.1 hz).1; simp at this; omega
 subst hk
 simp at hz
 subst hz
 rw [add_zero_block]
 exact ⟨none, 0, fun h => by rw [hp] at h; simp at h, by rw [hp]; simp, cell_row h 0 _ rfl, cell_row h 1 _ rfl, cell_row h 2 _ rfl, cell_row h 3 _ rfl⟩⟩
theorem cs_one (x : StepD) : (#[.int .i64 x.axis, .int .i64 x.test, .string ⟨x.name.toArray⟩, .slice none 0 0] : Array Value).all (·.oneCell') = true := by simp [Value.oneCell']
theorem below_setRow {N g : Nat} {w V : World} (h : Below N w V) (hg : N ≤ g) (cs : Array Value) : Below N w (V.setRow g cs) := ⟨h.os, h.tape, h.output, by rw [setRow_size]; exact h.size, fun b hb => (setRow_other _ _ _ _ (by omega)).trans (h.block b hb)⟩
def zeroS : Array Value := #[.int .i64 0, .int .i64 0, .string ⟨#[]⟩, .slice none 0 0]
section
variable {M : Nat → Prop} {t : Nat} {f : Fo} {next : Int}
theorem set_any (w : World) (h : TreeM M t f next w) (l : List StepD) (A : Option Addr) (c : Nat) (hA : StepsAt w w.heap.size A l) (hs : SmallSteps l) : Calls Tryz.prog 18 #[.pointer (some ⟨t, 0, none⟩), .slice A l.length c] w (EvalPost w f l) := by
 have hev := Eval_any h l A c hA hs
 unfold treeI at hev
 go_enter Tryz.func18, Tryz.ntmps18
 go_wp2_with fail
 refine hev.mono ?_
 clear hev
 rintro e w1 ⟨A1, c1, rfl, h1, h2, h3⟩
 go_wp2_with fail
 go_ret2
 exact ⟨A1, c1, rfl, h1, h2, h3⟩
end
theorem walk_WalkerDeep (l : List ItemD) (A : Option Addr) (c : Nat) (x : QSlot) (w : World) (hI : ItemsAt w w.heap.size A l) (hS : SmallItems l) (hl : l.length ≤ 2000000) (_ : PredsAt w w.heap.size x.2.1 x.1.preds) (_ : x.1.preds.length ≤ x.2.2) (hSs : SmallStep x.1) :
  Calls Tryz.prog 8 #[.slice A l.length c, .agg (slotC x)] w (Ret w (.bool true)) := by
 have HI := Lib.hid hI
 have HS := Lib.hid hS
 have HSS := Lib.hid hSs
 unfold slotC
 clear hI hS hSs
 go_enter Tryz.func8, Tryz.ntmps8
 go_wp2_with fail
 obtain ⟨w0, hw0⟩ : ∃ w0, Hid (w.alloc (.cells (slotC x) 45) = w0) := ⟨_, rfl⟩
 have hw0' := hw0.out
 unfold slotC at hw0'
 rw [hw0']
 have hb0 : Below w.heap.size w w0 := by rw [← hw0.out]; exact (Below.refl _ w).alloc (Nat.le_refl _) _
 have HX0 : Hid (w0.heap[w.heap.size]? = some (.cells (slotC x) 45 (0, 0))) := by show _ = _; rw [← hw0.out]; exact heap_alloc_new w _
 have HB0 := Lib.hid hb0
 clear hb0 hw0'
 refine (grown_any l A c w0 ((HI.out.below HB0.out).more HB0.out.size) HS.out hl).mono ?_
 rintro e w1 ⟨M, t, f, next, Ar, cr, rfl, ht1, hr1, hf1, hb1, hlo1⟩
 have HT1 := Lib.hid ht1
 have HLO : Hid (∀ b, M b → w.heap.size < b) := fun b hb => by have := hlo1 b hb; have := (Array.getElem?_eq_some_iff.1 HX0.out).1; omega
 have HB1 := Lib.hid (HB0.out.trans (hb1.mono HB0.out.size))
 have HX1 : Hid (w1.heap[w.heap.size]? = some (.cells (slotC x) 45 (0, 0))) := (hb1.block _ (Array.getElem?_eq_some_iff.1 HX0.out).1).trans HX0.out
 clear ht1 hr1 hf1 hb1 hlo1
 go_upto_region 2 with (fail)
 obtain ⟨w2, hw2⟩ : ∃ w2, Hid (w1.alloc (.cells #[.slice Ar (f.flat 0).length cr, .int .i64 next] 27) = w2) := ⟨_, rfl⟩
 have hb2 : Below w1.heap.size w1 w2 := by rw [← hw2.out]; exact (Below.refl _ w1).alloc (Nat.le_refl _) _
 have HT2 := Lib.hid (HT1.out.below hb2)
 have HB2 := Lib.hid (HB1.out.trans (hb2.mono HB1.out.size))
 have HX2 : Hid (w2.heap[w.heap.size]? = some (.cells (slotC x) 45 (0, 0))) := (hb2.block _ (Array.getElem?_eq_some_iff.1 HX1.out).1).trans HX1.out
 rw [hw2.out]
 clear hb2
 go_wp2_with fail
 by_cases h40 : (l.length : Int) ≤ 40
 ·refine (small_any A l.length c w2 true (decide_eq_true h40)).mono ?_
  rintro e w3 ⟨rfl, hb3⟩
  have HB3 := Lib.hid (HB2.out.trans (hb3.mono HB2.out.size))
  have HT3 := Lib.hid (HT2.out.below hb3)
  have HX3 : Hid (w3.heap[w.heap.size]? = some (.cells (slotC x) 45 (0, 0))) := (hb3.block _ (Array.getElem?_eq_some_iff.1 HX2.out).1).trans HX2.out
  clear hb3
  have fr := free_row HX3.out 3
  have fc := cell_row HX3.out 3 _ rfl
  go_upto_region 5 with (fail)
  clear h40 fr fc
  have HX4 : Hid ((w3.setCell ⟨w.heap.size, 3, none⟩ (.slice none 0 0)).heap[w.heap.size]? = some (.cells #[.int .i64 x.1.axis, .int .i64 x.1.test, .string ⟨x.1.name.toArray⟩, .slice none 0 0] 45 (0, 0))) := Lib.heap_setCell_same (i := 3) HX3.out _
  obtain ⟨w4, hw4⟩ : ∃ w4, Hid (w3.setCell ⟨w.heap.size, 3, none⟩ (.slice none 0 0) = w4) := ⟨_, rfl⟩
  rw [hw4.out] at HX4 ⊢
  have HB4 : Hid (Below w.heap.size w w4) := by show Below _ _ _; rw [← hw4.out]; exact HB3.out.setCell (Nat.le_refl _) _
  have HT4 : Hid (TreeM M t f next w4) := by
   show TreeM _ _ _ _ _
   rw [← hw4.out]
   exact HT3.out.turn (M' := fun b => b = w.heap.size) ⟨rfl, rfl, rfl, by simp, fun b _ hne => Below.heap_setCell _ _ _ _ hne⟩ (fun b hb e => by have := HLO.out b hb; omega)
  have HSV : Hid (∀ V : World, Below w4.heap.size w4 V → (fun V => V.cell? ⟨w.heap.size, 0, none⟩ = some (.int .i64 x.1.axis) ∧ V.cell? ⟨w.heap.size, 1, none⟩ = some (.int .i64 x.1.test) ∧ V.cell? ⟨w.heap.size, 2, none⟩ = some (.string ⟨x.1.name.toArray⟩) ∧ V.cell? ⟨w.heap.size, 3, none⟩ = some (.slice none 0 0)) V) := fun V hV => by
   have h := (hV.block _ (Array.getElem?_eq_some_iff.1 HX4.out).1).trans HX4.out
   exact ⟨cell_row h 0 _ rfl, cell_row h 1 _ rfl, cell_row h 2 _ rfl, cell_row h 3 _ rfl⟩
  refine wp_mono (Q := onlyN fun _ a V => ∃ b7 b8 b9 : Nat, (b7 ≠ b8 ∧ b8 ≠ b9 ∧ b7 ≠ b9) ∧ (w4.heap.size ≤ b7 ∧ w4.heap.size ≤ b8 ∧ w4.heap.size ≤ b9) ∧ V.heap[b7]? = some (.cells #[.int .i64 x.1.axis, .int .i64 x.1.test, .string ⟨x.1.name.toArray⟩, .slice none 0 0] 45 (0, 0)) ∧ V.heap[b8]? = some (.cells #[.int .i64 x.1.axis, .int .i64 x.1.test, .string ⟨x.1.name.toArray⟩, .slice none 0 0] 45 (0, 0)) ∧ V.heap[b9]? = some (.cells #[.int .i64 x.1.axis, .int .i64 x.1.test, .string ⟨x.1.name.toArray⟩, .slice none 0 0] 45 (0, 0)) ∧ Below w4.heap.size w4 V ∧
   a = { tmps := #[Value.slice A l.length c, Value.agg #[Value.int .i64 x.1.axis, Value.int .i64 x.1.test, Value.string ⟨x.1.name.toArray⟩, Value.slice x.2.1 x.1.preds.length x.2.2], undef, Value.pointer (some ⟨w.heap.size, 0, none⟩), Value.bool false, Value.pointer (some ⟨t, 0, none⟩), Value.pointer (some ⟨w1.heap.size, 0, none⟩), Value.pointer (some ⟨b7, 0, none⟩), Value.pointer (some ⟨b8, 0, none⟩), Value.pointer (some ⟨b9, 0, none⟩), undef, undef, undef, undef, undef, undef, undef, undef, undef, undef, Value.tuple #[Value.pointer (some ⟨t, 0, none⟩), Value.agg #[Value.slice Ar (f.flat 0).length cr, Value.int .i64 next]], Value.slice A l.length c, Value.tuple #[Value.pointer (some ⟨t, 0, none⟩), Value.agg #[Value.slice Ar (f.flat 0).length cr, Value.int .i64 next]], Value.pointer (some ⟨t, 0, none⟩), Value.agg #[Value.slice Ar (f.flat 0).length cr, Value.int .i64 next], Value.pointer (some ⟨t, 0, none⟩), Value.bool false, Value.bool false, Value.slice A l.length c, Value.bool true, Value.bool false, Value.bool false, undef, undef, undef, undef, undef, Value.pointer (some ⟨w.heap.size, 3, none⟩), Value.agg #[Value.int .i64 x.1.axis, Value.int .i64 x.1.test, Value.string ⟨x.1.name.toArray⟩, Value.slice none 0 0], Value.agg #[Value.int .i64 x.1.axis, Value.int .i64 x.1.test, Value.string ⟨x.1.name.toArray⟩, Value.slice none 0 0], Value.agg #[Value.int .i64 x.1.axis, Value.int .i64 x.1.test, Value.string ⟨x.1.name.toArray⟩, Value.slice none 0 0], undef, undef, undef, undef, undef, undef, undef, undef, undef, undef, undef, undef, undef, undef, undef, undef, undef, undef, undef, undef, undef, undef, undef, undef, undef, undef, undef, undef, undef, undef, undef, undef, undef, undef, undef, undef, undef, undef, undef, undef, undef, undef, undef, undef, undef, undef, undef, undef, undef, undef, undef, undef, undef, undef, undef, undef, undef, undef, undef, undef, undef, undef, undef, undef, undef, undef, undef, undef, undef, undef, undef, undef, undef, undef, undef], defers := [] }) ?_ ?_
  ·have hbd : Below w4.heap.size w4 w4.drew := ⟨rfl, rfl, rfl, Nat.le_refl _, fun _ _ => rfl⟩
   refine wp_region_held_drew (S := fun V => V.cell? ⟨w.heap.size, 0, none⟩ = some (.int .i64 x.1.axis) ∧ V.cell? ⟨w.heap.size, 1, none⟩ = some (.int .i64 x.1.test) ∧ V.cell? ⟨w.heap.size, 2, none⟩ = some (.string ⟨x.1.name.toArray⟩) ∧ V.cell? ⟨w.heap.size, 3, none⟩ = some (.slice none 0 0)) (by kernel_rfl) (HSV.out _ hbd) (fun hHeld => ?_)
   refine tkv 0 (h := tkv 1 (h := tkv 2 (h := ?_)))
   obtain ⟨v, hv⟩ : ∃ v, Hid (w4.drew = v) := ⟨_, rfl⟩
   rw [hv.out] at hbd hHeld ⊢
   have hA1 : Below w4.heap.size w4 (v.alloc (.cells zeroS 45)) := hbd.alloc (by rw [← hv.out]; exact Nat.le_refl _) _
   have hA2 : Below w4.heap.size w4 ((v.alloc (.cells zeroS 45)).alloc (.cells zeroS 45)) := hA1.alloc hA1.size _
   have hA3 : Below w4.heap.size w4 (((v.alloc (.cells zeroS 45)).alloc (.cells zeroS 45)).alloc (.cells zeroS 45)) := hA2.alloc hA2.size _
   have hvs : w4.heap.size ≤ v.heap.size := hbd.size
   have hz0 : (((v.alloc (.cells zeroS 45)).alloc (.cells zeroS 45)).alloc (.cells zeroS 45)).heap[v.heap.size]? = some (.cells zeroS 45 (0, 0)) := (Below.heap_alloc _ _ _ (by simp; omega)).trans ((Below.heap_alloc _ _ _ (by simp)).trans (heap_alloc_new v _))
   have hz1 : (((v.alloc (.cells zeroS 45)).alloc (.cells zeroS 45)).alloc (.cells zeroS 45)).heap[v.heap.size + 1]? = some (.cells zeroS 45 (0, 0)) := by
    refine (Below.heap_alloc _ _ _ (by simp)).trans ?_
    have := heap_alloc_new (v.alloc (.cells zeroS 45)) (.cells zeroS 45)
    simpa using this
   have hz2 : (((v.alloc (.cells zeroS 45)).alloc (.cells zeroS 45)).alloc (.cells zeroS 45)).heap[v.heap.size + 1 + 1]? = some (.cells zeroS 45 (0, 0)) := by
    have := heap_alloc_new ((v.alloc (.cells zeroS 45)).alloc (.cells zeroS 45)) (.cells zeroS 45)
    simpa using this
   refine wpAnyH_ready (rs := [3, 4, 5]) (by kernel_rfl) (by simp) ?_
   refine AllReadyH.cons (o := ⟨_, _, _, _, _, _⟩) rfl (fun K hK => ?_) (AllReadyH.cons (o := ⟨_, _, _, _, _, _⟩) rfl (fun K hK => ?_) (AllReadyH.cons (o := ⟨_, _, _, _, _, _⟩) rfl (fun K hK => ?_) AllReadyH.nil))
   ·go_simp
    refine hK.out _ _ (HSV.out _ hA1) (fun hHeld => ?_)
    clear hK K
    try go_frame
    refine wpAnyH_ready (rs := [4, 5]) (by kernel_rfl) (by simp) ?_
    refine AllReadyH.cons (o := ⟨_, _, _, _, _, _⟩) rfl (fun K hK => ?_) (AllReadyH.cons (o := ⟨_, _, _, _, _, _⟩) rfl (fun K hK => ?_) AllReadyH.nil)
    ·go_simp
     refine hK.out _ _ (HSV.out _ hA2) (fun hHeld => ?_)
     clear hK K
     try go_frame
     refine rdy 5 (fun K hK => ?_)
     go_simp
     refine hK.out _ _ (HSV.out _ hA3) (fun hHeld => ?_)
     clear hK K
     try go_frame
     refine rdy 6 (fun K hK => ?_)
     refine step_store_row rfl 45 (.tmp 7) (.tmp 38) rfl (v.heap.size) #[.int .i64 x.1.axis, .int .i64 x.1.test, .string ⟨x.1.name.toArray⟩, .slice none 0 0] rfl rfl 45 zeroS hz0 (by kernel_rfl) rfl (cs_one x.1) ?_
     have g1 := below_setRow (g := v.heap.size) hA3 (by omega) #[.int .i64 x.1.axis, .int .i64 x.1.test, .string ⟨x.1.name.toArray⟩, .slice none 0 0]
     refine hK.out _ _ (HSV.out _ g1) (fun hHeld => ?_)
     clear hK K
     try go_frame
     refine rdy 7 (fun K hK => ?_)
     refine step_store_row rfl 45 (.tmp 8) (.tmp 39) rfl (v.heap.size + 1) #[.int .i64 x.1.axis, .int .i64 x.1.test, .string ⟨x.1.name.toArray⟩, .slice none 0 0] rfl rfl 45 zeroS ((setRow_other _ _ _ _ (by omega)).trans hz1) (by kernel_rfl) rfl (cs_one x.1) ?_
     have g2 := below_setRow (g := v.heap.size + 1) g1 (by omega) #[.int .i64 x.1.axis, .int .i64 x.1.test, .string ⟨x.1.name.toArray⟩, .slice none 0 0]
     refine hK.out _ _ (HSV.out _ g2) (fun hHeld => ?_)
     clear hK K
     try go_frame
     refine rdy 8 (fun K hK => ?_)
     refine step_store_row rfl 45 (.tmp 9) (.tmp 40) rfl (v.heap.size + 1 + 1) #[.int .i64 x.1.axis, .int .i64 x.1.test, .string ⟨x.1.name.toArray⟩, .slice none 0 0] rfl rfl 45 zeroS ((setRow_other _ _ _ _ (by omega)).trans ((setRow_other _ _ _ _ (by omega)).trans hz2)) (by kernel_rfl) rfl (cs_one x.1) ?_
     have g3 := below_setRow (g := v.heap.size + 1 + 1) g2 (by omega) #[.int .i64 x.1.axis, .int .i64 x.1.test, .string ⟨x.1.name.toArray⟩, .slice none 0 0]
     refine hK.out _ _ (HSV.out _ g3) (fun hHeld => ?_)
     clear hK K
     try go_frame
     refine wpAnyH_done (by kernel_rfl) ?_ _
     dsimp only [onlyN]
     refine ⟨v.heap.size, v.heap.size + 1, v.heap.size + 1 + 1, ⟨by omega, by omega, by omega⟩, ⟨by omega, by omega, by omega⟩, ?_, ?_, setRow_heap _ _ _ _ _ _ ((setRow_other _ _ _ _ (by omega)).trans ((setRow_other _ _ _ _ (by omega)).trans hz2)), g3, rfl⟩
     ·exact (setRow_other _ _ _ _ (by omega)).trans ((setRow_other _ _ _ _ (by omega)).trans (setRow_heap _ _ _ _ _ _ hz0))
     ·exact (setRow_other _ _ _ _ (by omega)).trans (setRow_heap _ _ _ _ _ _ ((setRow_other _ _ _ _ (by omega)).trans hz1))
    ·go_simp
     refine hK.out _ _ (HSV.out _ hA2) (fun hHeld => ?_)
     clear hK K
     try go_frame
     refine rdy 4 (fun K hK => ?_)
     go_simp
     refine hK.out _ _ (HSV.out _ hA3) (fun hHeld => ?_)
     clear hK K
     try go_frame
     refine rdy 6 (fun K hK => ?_)
     refine step_store_row rfl 45 (.tmp 7) (.tmp 38) rfl (v.heap.size) #[.int .i64 x.1.axis, .int .i64 x.1.test, .string ⟨x.1.name.toArray⟩, .slice none 0 0] rfl rfl 45 zeroS hz0 (by kernel_rfl) rfl (cs_one x.1) ?_
     have g1 := below_setRow (g := v.heap.size) hA3 (by omega) #[.int .i64 x.1.axis, .int .i64 x.1.test, .string ⟨x.1.name.toArray⟩, .slice none 0 0]
     refine hK.out _ _ (HSV.out _ g1) (fun hHeld => ?_)
     clear hK K
     try go_frame
     refine rdy 7 (fun K hK => ?_)
     refine step_store_row rfl 45 (.tmp 8) (.tmp 39) rfl (v.heap.size + 1 + 1) #[.int .i64 x.1.axis, .int .i64 x.1.test, .string ⟨x.1.name.toArray⟩, .slice none 0 0] rfl rfl 45 zeroS ((setRow_other _ _ _ _ (by omega)).trans hz2) (by kernel_rfl) rfl (cs_one x.1) ?_
     have g2 := below_setRow (g := v.heap.size + 1 + 1) g1 (by omega) #[.int .i64 x.1.axis, .int .i64 x.1.test, .string ⟨x.1.name.toArray⟩, .slice none 0 0]
     refine hK.out _ _ (HSV.out _ g2) (fun hHeld => ?_)
     clear hK K
     try go_frame
     refine rdy 8 (fun K hK => ?_)
     refine step_store_row rfl 45 (.tmp 9) (.tmp 40) rfl (v.heap.size + 1) #[.int .i64 x.1.axis, .int .i64 x.1.test, .string ⟨x.1.name.toArray⟩, .slice none 0 0] rfl rfl 45 zeroS ((setRow_other _ _ _ _ (by omega)).trans ((setRow_other _ _ _ _ (by omega)).trans hz1)) (by kernel_rfl) rfl (cs_one x.1) ?_
     have g3 := below_setRow (g := v.heap.size + 1) g2 (by omega) #[.int .i64 x.1.axis, .int .i64 x.1.test, .string ⟨x.1.name.toArray⟩, .slice none 0 0]
     refine hK.out _ _ (HSV.out _ g3) (fun hHeld => ?_)
     clear hK K
     try go_frame
     refine wpAnyH_done (by kernel_rfl) ?_ _
     dsimp only [onlyN]
     refine ⟨v.heap.size, v.heap.size + 1 + 1, v.heap.size + 1, ⟨by omega, by omega, by omega⟩, ⟨by omega, by omega, by omega⟩, ?_, ?_, setRow_heap _ _ _ _ _ _ ((setRow_other _ _ _ _ (by omega)).trans ((setRow_other _ _ _ _ (by omega)).trans hz1)), g3, rfl⟩
     ·exact (setRow_other _ _ _ _ (by omega)).trans ((setRow_other _ _ _ _ (by omega)).trans (setRow_heap _ _ _ _ _ _ hz0))
     ·exact (setRow_other _ _ _ _ (by omega)).trans (setRow_heap _ _ _ _ _ _ ((setRow_other _ _ _ _ (by omega)).trans hz2))
   ·go_simp
    refine hK.out _ _ (HSV.out _ hA1) (fun hHeld => ?_)
    clear hK K
    try go_frame
    refine wpAnyH_ready (rs := [3, 5]) (by kernel_rfl) (by simp) ?_
    refine AllReadyH.cons (o := ⟨_, _, _, _, _, _⟩) rfl (fun K hK => ?_) (AllReadyH.cons (o := ⟨_, _, _, _, _, _⟩) rfl (fun K hK => ?_) AllReadyH.nil)
    ·go_simp
     refine hK.out _ _ (HSV.out _ hA2) (fun hHeld => ?_)
     clear hK K
     try go_frame
     refine rdy 5 (fun K hK => ?_)
     go_simp
     refine hK.out _ _ (HSV.out _ hA3) (fun hHeld => ?_)
     clear hK K
     try go_frame
     refine rdy 6 (fun K hK => ?_)
     refine step_store_row rfl 45 (.tmp 7) (.tmp 38) rfl (v.heap.size + 1) #[.int .i64 x.1.axis, .int .i64 x.1.test, .string ⟨x.1.name.toArray⟩, .slice none 0 0] rfl rfl 45 zeroS hz1 (by kernel_rfl) rfl (cs_one x.1) ?_
     have g1 := below_setRow (g := v.heap.size + 1) hA3 (by omega) #[.int .i64 x.1.axis, .int .i64 x.1.test, .string ⟨x.1.name.toArray⟩, .slice none 0 0]
     refine hK.out _ _ (HSV.out _ g1) (fun hHeld => ?_)
     clear hK K
     try go_frame
     refine rdy 7 (fun K hK => ?_)
     refine step_store_row rfl 45 (.tmp 8) (.tmp 39) rfl (v.heap.size) #[.int .i64 x.1.axis, .int .i64 x.1.test, .string ⟨x.1.name.toArray⟩, .slice none 0 0] rfl rfl 45 zeroS ((setRow_other _ _ _ _ (by omega)).trans hz0) (by kernel_rfl) rfl (cs_one x.1) ?_
     have g2 := below_setRow (g := v.heap.size) g1 (by omega) #[.int .i64 x.1.axis, .int .i64 x.1.test, .string ⟨x.1.name.toArray⟩, .slice none 0 0]
     refine hK.out _ _ (HSV.out _ g2) (fun hHeld => ?_)
     clear hK K
     try go_frame
     refine rdy 8 (fun K hK => ?_)
     refine step_store_row rfl 45 (.tmp 9) (.tmp 40) rfl (v.heap.size + 1 + 1) #[.int .i64 x.1.axis, .int .i64 x.1.test, .string ⟨x.1.name.toArray⟩, .slice none 0 0] rfl rfl 45 zeroS ((setRow_other _ _ _ _ (by omega)).trans ((setRow_other _ _ _ _ (by omega)).trans hz2)) (by kernel_rfl) rfl (cs_one x.1) ?_
     have g3 := below_setRow (g := v.heap.size + 1 + 1) g2 (by omega) #[.int .i64 x.1.axis, .int .i64 x.1.test, .string ⟨x.1.name.toArray⟩, .slice none 0 0]
     refine hK.out _ _ (HSV.out _ g3) (fun hHeld => ?_)
     clear hK K
     try go_frame
     refine wpAnyH_done (by kernel_rfl) ?_ _
     dsimp only [onlyN]
     refine ⟨v.heap.size + 1, v.heap.size, v.heap.size + 1 + 1, ⟨by omega, by omega, by omega⟩, ⟨by omega, by omega, by omega⟩, ?_, ?_, setRow_heap _ _ _ _ _ _ ((setRow_other _ _ _ _ (by omega)).trans ((setRow_other _ _ _ _ (by omega)).trans hz2)), g3, rfl⟩
     ·exact (setRow_other _ _ _ _ (by omega)).trans ((setRow_other _ _ _ _ (by omega)).trans (setRow_heap _ _ _ _ _ _ hz1))
     ·exact (setRow_other _ _ _ _ (by omega)).trans (setRow_heap _ _ _ _ _ _ ((setRow_other _ _ _ _ (by omega)).trans hz0))
    ·go_simp
     refine hK.out _ _ (HSV.out _ hA2) (fun hHeld => ?_)
     clear hK K
     try go_frame
     refine rdy 3 (fun K hK => ?_)
     go_simp
     refine hK.out _ _ (HSV.out _ hA3) (fun hHeld => ?_)
     clear hK K
     try go_frame
     refine rdy 6 (fun K hK => ?_)
     refine step_store_row rfl 45 (.tmp 7) (.tmp 38) rfl (v.heap.size + 1 + 1) #[.int .i64 x.1.axis, .int .i64 x.1.test, .string ⟨x.1.name.toArray⟩, .slice none 0 0] rfl rfl 45 zeroS hz2 (by kernel_rfl) rfl (cs_one x.1) ?_
     have g1 := below_setRow (g := v.heap.size + 1 + 1) hA3 (by omega) #[.int .i64 x.1.axis, .int .i64 x.1.test, .string ⟨x.1.name.toArray⟩, .slice none 0 0]
     refine hK.out _ _ (HSV.out _ g1) (fun hHeld => ?_)
     clear hK K
     try go_frame
     refine rdy 7 (fun K hK => ?_)
     refine step_store_row rfl 45 (.tmp 8) (.tmp 39) rfl (v.heap.size) #[.int .i64 x.1.axis, .int .i64 x.1.test, .string ⟨x.1.name.toArray⟩, .slice none 0 0] rfl rfl 45 zeroS ((setRow_other _ _ _ _ (by omega)).trans hz0) (by kernel_rfl) rfl (cs_one x.1) ?_
     have g2 := below_setRow (g := v.heap.size) g1 (by omega) #[.int .i64 x.1.axis, .int .i64 x.1.test, .string ⟨x.1.name.toArray⟩, .slice none 0 0]
     refine hK.out _ _ (HSV.out _ g2) (fun hHeld => ?_)
     clear hK K
     try go_frame
     refine rdy 8 (fun K hK => ?_)
     refine step_store_row rfl 45 (.tmp 9) (.tmp 40) rfl (v.heap.size + 1) #[.int .i64 x.1.axis, .int .i64 x.1.test, .string ⟨x.1.name.toArray⟩, .slice none 0 0] rfl rfl 45 zeroS ((setRow_other _ _ _ _ (by omega)).trans ((setRow_other _ _ _ _ (by omega)).trans hz1)) (by kernel_rfl) rfl (cs_one x.1) ?_
     have g3 := below_setRow (g := v.heap.size + 1) g2 (by omega) #[.int .i64 x.1.axis, .int .i64 x.1.test, .string ⟨x.1.name.toArray⟩, .slice none 0 0]
     refine hK.out _ _ (HSV.out _ g3) (fun hHeld => ?_)
     clear hK K
     try go_frame
     refine wpAnyH_done (by kernel_rfl) ?_ _
     dsimp only [onlyN]
     refine ⟨v.heap.size + 1 + 1, v.heap.size, v.heap.size + 1, ⟨by omega, by omega, by omega⟩, ⟨by omega, by omega, by omega⟩, ?_, ?_, setRow_heap _ _ _ _ _ _ ((setRow_other _ _ _ _ (by omega)).trans ((setRow_other _ _ _ _ (by omega)).trans hz1)), g3, rfl⟩
     ·exact (setRow_other _ _ _ _ (by omega)).trans ((setRow_other _ _ _ _ (by omega)).trans (setRow_heap _ _ _ _ _ _ hz2))
     ·exact (setRow_other _ _ _ _ (by omega)).trans (setRow_heap _ _ _ _ _ _ ((setRow_other _ _ _ _ (by omega)).trans hz0))
   ·go_simp
    refine hK.out _ _ (HSV.out _ hA1) (fun hHeld => ?_)
    clear hK K
    try go_frame
    refine wpAnyH_ready (rs := [3, 4]) (by kernel_rfl) (by simp) ?_
    refine AllReadyH.cons (o := ⟨_, _, _, _, _, _⟩) rfl (fun K hK => ?_) (AllReadyH.cons (o := ⟨_, _, _, _, _, _⟩) rfl (fun K hK => ?_) AllReadyH.nil)
    ·go_simp
     refine hK.out _ _ (HSV.out _ hA2) (fun hHeld => ?_)
     clear hK K
     try go_frame
     refine rdy 4 (fun K hK => ?_)
     go_simp
     refine hK.out _ _ (HSV.out _ hA3) (fun hHeld => ?_)
     clear hK K
     try go_frame
     refine rdy 6 (fun K hK => ?_)
     refine step_store_row rfl 45 (.tmp 7) (.tmp 38) rfl (v.heap.size + 1) #[.int .i64 x.1.axis, .int .i64 x.1.test, .string ⟨x.1.name.toArray⟩, .slice none 0 0] rfl rfl 45 zeroS hz1 (by kernel_rfl) rfl (cs_one x.1) ?_
     have g1 := below_setRow (g := v.heap.size + 1) hA3 (by omega) #[.int .i64 x.1.axis, .int .i64 x.1.test, .string ⟨x.1.name.toArray⟩, .slice none 0 0]
     refine hK.out _ _ (HSV.out _ g1) (fun hHeld => ?_)
     clear hK K
     try go_frame
     refine rdy 7 (fun K hK => ?_)
     refine step_store_row rfl 45 (.tmp 8) (.tmp 39) rfl (v.heap.size + 1 + 1) #[.int .i64 x.1.axis, .int .i64 x.1.test, .string ⟨x.1.name.toArray⟩, .slice none 0 0] rfl rfl 45 zeroS ((setRow_other _ _ _ _ (by omega)).trans hz2) (by kernel_rfl) rfl (cs_one x.1) ?_
     have g2 := below_setRow (g := v.heap.size + 1 + 1) g1 (by omega) #[.int .i64 x.1.axis, .int .i64 x.1.test, .string ⟨x.1.name.toArray⟩, .slice none 0 0]
     refine hK.out _ _ (HSV.out _ g2) (fun hHeld => ?_)
     clear hK K
     try go_frame
     refine rdy 8 (fun K hK => ?_)
     refine step_store_row rfl 45 (.tmp 9) (.tmp 40) rfl (v.heap.size) #[.int .i64 x.1.axis, .int .i64 x.1.test, .string ⟨x.1.name.toArray⟩, .slice none 0 0] rfl rfl 45 zeroS ((setRow_other _ _ _ _ (by omega)).trans ((setRow_other _ _ _ _ (by omega)).trans hz0)) (by kernel_rfl) rfl (cs_one x.1) ?_
     have g3 := below_setRow (g := v.heap.size) g2 (by omega) #[.int .i64 x.1.axis, .int .i64 x.1.test, .string ⟨x.1.name.toArray⟩, .slice none 0 0]
     refine hK.out _ _ (HSV.out _ g3) (fun hHeld => ?_)
     clear hK K
     try go_frame
     refine wpAnyH_done (by kernel_rfl) ?_ _
     dsimp only [onlyN]
     refine ⟨v.heap.size + 1, v.heap.size + 1 + 1, v.heap.size, ⟨by omega, by omega, by omega⟩, ⟨by omega, by omega, by omega⟩, ?_, ?_, setRow_heap _ _ _ _ _ _ ((setRow_other _ _ _ _ (by omega)).trans ((setRow_other _ _ _ _ (by omega)).trans hz0)), g3, rfl⟩
     ·exact (setRow_other _ _ _ _ (by omega)).trans ((setRow_other _ _ _ _ (by omega)).trans (setRow_heap _ _ _ _ _ _ hz1))
     ·exact (setRow_other _ _ _ _ (by omega)).trans (setRow_heap _ _ _ _ _ _ ((setRow_other _ _ _ _ (by omega)).trans hz2))
    ·go_simp
     refine hK.out _ _ (HSV.out _ hA2) (fun hHeld => ?_)
     clear hK K
     try go_frame
     refine rdy 3 (fun K hK => ?_)
     go_simp
     refine hK.out _ _ (HSV.out _ hA3) (fun hHeld => ?_)
     clear hK K
     try go_frame
     refine rdy 6 (fun K hK => ?_)
     refine step_store_row rfl 45 (.tmp 7) (.tmp 38) rfl (v.heap.size + 1 + 1) #[.int .i64 x.1.axis, .int .i64 x.1.test, .string ⟨x.1.name.toArray⟩, .slice none 0 0] rfl rfl 45 zeroS hz2 (by kernel_rfl) rfl (cs_one x.1) ?_
     have g1 := below_setRow (g := v.heap.size + 1 + 1) hA3 (by omega) #[.int .i64 x.1.axis, .int .i64 x.1.test, .string ⟨x.1.name.toArray⟩, .slice none 0 0]
     refine hK.out _ _ (HSV.out _ g1) (fun hHeld => ?_)
     clear hK K
     try go_frame
     refine rdy 7 (fun K hK => ?_)
     refine step_store_row rfl 45 (.tmp 8) (.tmp 39) rfl (v.heap.size + 1) #[.int .i64 x.1.axis, .int .i64 x.1.test, .string ⟨x.1.name.toArray⟩, .slice none 0 0] rfl rfl 45 zeroS ((setRow_other _ _ _ _ (by omega)).trans hz1) (by kernel_rfl) rfl (cs_one x.1) ?_
     have g2 := below_setRow (g := v.heap.size + 1) g1 (by omega) #[.int .i64 x.1.axis, .int .i64 x.1.test, .string ⟨x.1.name.toArray⟩, .slice none 0 0]
     refine hK.out _ _ (HSV.out _ g2) (fun hHeld => ?_)
     clear hK K
     try go_frame
     refine rdy 8 (fun K hK => ?_)
     refine step_store_row rfl 45 (.tmp 9) (.tmp 40) rfl (v.heap.size) #[.int .i64 x.1.axis, .int .i64 x.1.test, .string ⟨x.1.name.toArray⟩, .slice none 0 0] rfl rfl 45 zeroS ((setRow_other _ _ _ _ (by omega)).trans ((setRow_other _ _ _ _ (by omega)).trans hz0)) (by kernel_rfl) rfl (cs_one x.1) ?_
     have g3 := below_setRow (g := v.heap.size) g2 (by omega) #[.int .i64 x.1.axis, .int .i64 x.1.test, .string ⟨x.1.name.toArray⟩, .slice none 0 0]
     refine hK.out _ _ (HSV.out _ g3) (fun hHeld => ?_)
     clear hK K
     try go_frame
     refine wpAnyH_done (by kernel_rfl) ?_ _
     dsimp only [onlyN]
     refine ⟨v.heap.size + 1 + 1, v.heap.size + 1, v.heap.size, ⟨by omega, by omega, by omega⟩, ⟨by omega, by omega, by omega⟩, ?_, ?_, setRow_heap _ _ _ _ _ _ ((setRow_other _ _ _ _ (by omega)).trans ((setRow_other _ _ _ _ (by omega)).trans hz0)), g3, rfl⟩
     ·exact (setRow_other _ _ _ _ (by omega)).trans ((setRow_other _ _ _ _ (by omega)).trans (setRow_heap _ _ _ _ _ _ hz2))
     ·exact (setRow_other _ _ _ _ (by omega)).trans (setRow_heap _ _ _ _ _ _ ((setRow_other _ _ _ _ (by omega)).trans hz1))
  ·intro e a w5 h
   cases e <;> first | exact False.elim h | skip
   obtain ⟨b7, b8, b9, ⟨n78, n89, n79⟩, ⟨q7, q8, q9⟩, h7, h8, h9, hb5, rfl⟩ := h
   dsimp only
   have fr7 := free_row h7 0
   have fr8 := free_row h8 0
   have fr9 := free_row h9 0
   have fc7 := cell_row h7 0 _ rfl
   have fc8 := cell_row h8 0 _ rfl
   have fc9 := cell_row h9 0 _ rfl
   have HH := Lib.hid (And.intro h7 (And.intro h8 h9))
   have HB5 := Lib.hid hb5
   clear h7 h8 h9 hb5
   go_upto_region 7 with (fail)
   clear fr7 fr8 fr9 fc7 fc8 fc9
   obtain ⟨w6, hw6⟩ : ∃ w6, Hid (((w5.setCell ⟨b7, 0, none⟩ (.int .i64 2)).setCell ⟨b8, 0, none⟩ (.int .i64 3)).setCell ⟨b9, 0, none⟩ (.int .i64 8) = w6) := ⟨_, rfl⟩
   have HY7 : Hid (w6.heap[b7]? = some (.cells (slotC (sA 2 x.1, none, 0)) 45 (0, 0))) := by
    show _ = _
    rw [← hw6.out]
    exact (Below.heap_setCell _ _ _ _ n79).trans ((Below.heap_setCell _ _ _ _ n78).trans (Lib.heap_setCell_same (i := 0) HH.out.1 _))
   have HY8 : Hid (w6.heap[b8]? = some (.cells (slotC (sA 3 x.1, none, 0)) 45 (0, 0))) := by
    show _ = _
    rw [← hw6.out]
    exact (Below.heap_setCell _ _ _ _ n89).trans (Lib.heap_setCell_same (i := 0) ((Below.heap_setCell _ _ _ _ (Ne.symm n78)).trans HH.out.2.1) _)
   have HY9 : Hid (w6.heap[b9]? = some (.cells (slotC (sA 8 x.1, none, 0)) 45 (0, 0))) := by
    show _ = _
    rw [← hw6.out]
    exact Lib.heap_setCell_same (i := 0) ((Below.heap_setCell _ _ _ _ (Ne.symm n89)).trans ((Below.heap_setCell _ _ _ _ (Ne.symm n79)).trans HH.out.2.2)) _
   have hb6 : Below w4.heap.size w4 w6 := by
    rw [← hw6.out]
    exact ((HB5.out.setCell q7 _).setCell q8 _).setCell q9 _
   have HB6 := Lib.hid (HB4.out.trans (hb6.mono HB4.out.size))
   have HT6 := Lib.hid (HT4.out.below hb6)
   have e0 : w6.cell? ⟨b7, 0, none⟩ = some (.int .i64 2) := cell_row HY7.out 0 _ rfl
   have e1 : w6.cell? ⟨b7, 1, none⟩ = some (.int .i64 x.1.test) := cell_row HY7.out 1 _ rfl
   have e2 : w6.cell? ⟨b7, 2, none⟩ = some (.string ⟨x.1.name.toArray⟩) := cell_row HY7.out 2 _ rfl
   have e3 : w6.cell? ⟨b7, 3, none⟩ = some (.slice none 0 0) := cell_row HY7.out 3 _ rfl
   clear hb6 n78 n89 n79 q7 q8 q9
   rw [hw6.out]
   have HSM : Hid (∀ a, SmallSteps [sA a x.1]) := fun a => ⟨by simp, fun y hy => by rw [List.mem_singleton.1 hy]; exact ⟨HSS.out.1, by simp [sA], fun p hp => by simp [sA] at hp⟩⟩
   go_wp2_with fail
   obtain ⟨w7, hw7⟩ : ∃ w7, Hid (w6.alloc (.cells (slotC (sA 2 x.1, none, 0)) 45) = w7) := ⟨_, rfl⟩
   have hw7' : w6.alloc (.cells #[.int .i64 2, .int .i64 x.1.test, .string ⟨x.1.name.toArray⟩, .slice none 0 0] 45) = w7 := hw7.out
   rw [hw7']
   have hb7 : Below w6.heap.size w6 w7 := by rw [← hw7.out]; exact (Below.refl _ w6).alloc (Nat.le_refl _) _
   have HAT7 := Lib.hid (at_one (w := w7) (s := sA 2 x.1) rfl (by rw [← hw7.out]; exact heap_alloc_new w6 _))
   have HB7 := Lib.hid (HB6.out.trans (hb7.mono HB6.out.size))
   have HT7 := Lib.hid (HT6.out.below hb7)
   have HG7 : Hid (w7.heap[b8]? = some (.cells (slotC (sA 3 x.1, none, 0)) 45 (0, 0)) ∧ w7.heap[b9]? = some (.cells (slotC (sA 8 x.1, none, 0)) 45 (0, 0))) := ⟨(hb7.block _ (Array.getElem?_eq_some_iff.1 HY8.out).1).trans HY8.out, (hb7.block _ (Array.getElem?_eq_some_iff.1 HY9.out).1).trans HY9.out⟩
   clear hb7 hw7' e0 e1 e2 e3
   refine (set_any w7 HT7.out [sA 2 x.1] (some ⟨w6.heap.size, 0, none⟩) 1 HAT7.out (HSM.out 2)).mono ?_
   rintro e w8 ⟨Aa, ca, rfl, hra, hb8, _⟩
   obtain ⟨EA, hEA⟩ : ∃ E, Hid (evalW f [sA 2 x.1] = E) := ⟨_, rfl⟩
   obtain ⟨IS, hIS⟩ : ∃ b, Hid (rightL [sA 2 x.1] = b) := ⟨_, rfl⟩
   rw [hEA.out] at hra
   rw [hEA.out, hIS.out]
   have HRA := Lib.hid hra
   have HB8 := Lib.hid (HB7.out.trans (hb8.mono HB7.out.size))
   have HT8 := Lib.hid (HT7.out.below hb8)
   have HG8 : Hid (w8.heap[b8]? = some (.cells (slotC (sA 3 x.1, none, 0)) 45 (0, 0)) ∧ w8.heap[b9]? = some (.cells (slotC (sA 8 x.1, none, 0)) 45 (0, 0))) := ⟨(hb8.block _ (Array.getElem?_eq_some_iff.1 HG7.out.1).1).trans HG7.out.1, (hb8.block _ (Array.getElem?_eq_some_iff.1 HG7.out.2).1).trans HG7.out.2⟩
   have e0 : w8.cell? ⟨b8, 0, none⟩ = some (.int .i64 3) := cell_row HG8.out.1 0 _ rfl
   have e1 : w8.cell? ⟨b8, 1, none⟩ = some (.int .i64 x.1.test) := cell_row HG8.out.1 1 _ rfl
   have e2 : w8.cell? ⟨b8, 2, none⟩ = some (.string ⟨x.1.name.toArray⟩) := cell_row HG8.out.1 2 _ rfl
   have e3 : w8.cell? ⟨b8, 3, none⟩ = some (.slice none 0 0) := cell_row HG8.out.1 3 _ rfl
   clear hra hb8
   go_wp2_with fail
   obtain ⟨w9, hw9⟩ : ∃ w9, Hid (w8.alloc (.cells (slotC (sA 3 x.1, none, 0)) 45) = w9) := ⟨_, rfl⟩
   have hw9' : w8.alloc (.cells #[.int .i64 3, .int .i64 x.1.test, .string ⟨x.1.name.toArray⟩, .slice none 0 0] 45) = w9 := hw9.out
   rw [hw9']
   have hb9 : Below w8.heap.size w8 w9 := by rw [← hw9.out]; exact (Below.refl _ w8).alloc (Nat.le_refl _) _
   have HAT9 := Lib.hid (at_one (w := w9) (s := sA 3 x.1) rfl (by rw [← hw9.out]; exact heap_alloc_new w8 _))
   have HB9 := Lib.hid (HB8.out.trans (hb9.mono HB8.out.size))
   have HT9 := Lib.hid (HT8.out.below hb9)
   have HG9 : Hid (w9.heap[b9]? = some (.cells (slotC (sA 8 x.1, none, 0)) 45 (0, 0))) := (hb9.block _ (Array.getElem?_eq_some_iff.1 HG8.out.2).1).trans HG8.out.2
   have HRA9 := Lib.hid (row_block HRA.out fun b hb => hb9.block b (row_lt HRA.out hb))
   clear hb9 hw9' e0 e1 e2 e3
   refine (set_any w9 HT9.out [sA 3 x.1] (some ⟨w8.heap.size, 0, none⟩) 1 HAT9.out (HSM.out 3)).mono ?_
   rintro e v1 ⟨Ab, cb, rfl, hrb, hc1, _⟩
   have HRB := Lib.hid hrb
   have HB10 := Lib.hid (HB9.out.trans (hc1.mono HB9.out.size))
   have HT10 := Lib.hid (HT9.out.below hc1)
   have HG10 : Hid (v1.heap[b9]? = some (.cells (slotC (sA 8 x.1, none, 0)) 45 (0, 0))) := (hc1.block _ (Array.getElem?_eq_some_iff.1 HG9.out).1).trans HG9.out
   have HRA10 : Hid (intRow v1 (.slice Aa EA.length ca) EA) := row_block HRA9.out fun b hb => hc1.block b (row_lt HRA9.out hb)
   clear hrb hc1
   cases IS with
   | false =>
    go_wp2_with fail
    refine (aliveW_any v1).mono ?_
    rintro e v2 ⟨rfl, hc2⟩
    have HB11 := Lib.hid (HB10.out.trans (hc2.mono HB10.out.size))
    clear hc2
    go_wp2_with fail
    go_ret
    exact ⟨rfl, HB11.out⟩
   | true =>
    have hbb : stepB (sA 2 x.1) = true := by rw [← right_one]; exact hIS.out
    obtain ⟨heA, heB⟩ := eval_below (f := f) x.1 hbb
    rw [hEA.out] at heA
    have hEB : evalW f [sA 3 x.1] = EA := heB.trans heA.symm
    rw [hEB] at HRB ⊢
    have HEA : Hid (EA = f.ids.filter fun y => testW x.1 (entW f y).d) := heA
    have HBB := Lib.hid hbb
    clear heA heB hEB hbb
    go_wp2_with fail
    refine (SameIds_any _ _ EA EA v1 HRA10.out HRB.out true (decide_eq_true rfl)).mono ?_
    rintro e v2 ⟨rfl, hc2⟩
    have HB11 := Lib.hid (HB10.out.trans (hc2.mono HB10.out.size))
    have HT11 := Lib.hid (HT10.out.below hc2)
    have HG11 : Hid (v2.heap[b9]? = some (.cells (slotC (sA 8 x.1, none, 0)) 45 (0, 0))) := (hc2.block _ (Array.getElem?_eq_some_iff.1 HG10.out).1).trans HG10.out
    have HRA11 : Hid (intRow v2 (.slice Aa EA.length ca) EA) := row_block HRA10.out fun b hb => hc2.block b (row_lt HRA10.out hb)
    clear hc2
    go_wp2_with fail
    go_loopw [14, 15, 65] (fun o mt i wr => ∃ (k : Nat) (A14 : Option Addr) (c14 : Nat), k ≤ 19 ∧ o = .slice A14 k c14 ∧ mt = .int .i64 (metW f x.1 k : Int) ∧ i = .int .i64 (k : Int) ∧ Hid (ChainAt wr A14 c14 k) ∧ Hid (∀ b, (Value.slice A14 k c14).ownBlock = some b → v2.heap.size ≤ b) ∧ Hid (Below v2.heap.size v2 wr)) (fun _ _ i _ => 19 - (intOf i).toNat)
    case atStart => exact ⟨0, none, 0, by omega, rfl, by rw [met_zero HT11.out.inv]; rfl, rfl, ⟨by simp, .inl ⟨rfl, rfl⟩⟩, fun b hb => by simp [Value.ownBlock] at hb, Below.refl _ _⟩
    case round =>
     obtain ⟨k, A14, c14, hk, rfl, rfl, rfl, hch, hfr, hbl⟩ := hrel
     have k0 : (0 : Int) ≤ (k : Int) := by omega
     obtain ⟨W0, hW0⟩ : ∃ W0, W0 = wr := ⟨_, rfl⟩
     subst hW0
     by_cases hk19 : k < 19
     ·have k1 : (k : Int) < 19 := by omega
      obtain ⟨pa, pc, u1, hr1, hch1, hfr1, hb1⟩ := chain_grow hch.out (by omega)
      have HCH := Lib.hid hch1
      have HBU : Hid (Below v2.heap.size v2 u1) := hbl.out.grown hb1 hbl.out.size (fun j hj => hfr.out j hj)
      have HFU : Hid (∀ b, (Value.slice pa (k + 1) pc).ownBlock = some b → v2.heap.size ≤ b) := fun b hb => by
       rcases hfr1 b hb with h | h
       ·exact hfr.out b h
       ·have := hbl.out.size; omega
      clear hch1 hfr1 hb1
      go_wp2_with (at_builtin; refine wpList_append_runI _ rfl _ _ 23 rfl (.slice A14 k c14) (.slice (some ⟨W0.heap.size, 0, none⟩) 1 1) (by simp [Act.eval]) (by simp [Act.eval]) hr1 ?_)
      have HG12 : Hid (u1.heap[b9]? = some (.cells (slotC (sA 8 x.1, none, 0)) 45 (0, 0))) := (HBU.out.block _ (Array.getElem?_eq_some_iff.1 HG11.out).1).trans HG11.out
      have HT12 := Lib.hid (HT11.out.below HBU.out)
      have HSV : Hid (∀ V : World, Below u1.heap.size u1 V → (fun V => V.cell? ⟨b9, 0, none⟩ = some (.int .i64 8) ∧ V.cell? ⟨b9, 1, none⟩ = some (.int .i64 x.1.test) ∧ V.cell? ⟨b9, 2, none⟩ = some (.string ⟨x.1.name.toArray⟩) ∧ V.cell? ⟨b9, 3, none⟩ = some (.slice none 0 0)) V) := fun V hV => by
       have h := (hV.block _ (Array.getElem?_eq_some_iff.1 HG12.out).1).trans HG12.out
       exact ⟨cell_row h 0 _ rfl, cell_row h 1 _ rfl, cell_row h 2 _ rfl, cell_row h 3 _ rfl⟩
      have HCA := Lib.hid (chain_at HCH.out)
      have HRL : Hid ((List.replicate (k + 1) sC).length = k + 1) := List.length_replicate
      have HRL2 : Hid ((List.replicate (k + 1) sC ++ [sA 8 x.1]).length = k + 1 + 1) := by show _ = _; simp
      have HSM8 : Hid (SmallSteps (List.replicate (k + 1) sC ++ [sA 8 x.1])) := ⟨by simp; omega, fun y hy => by
       rcases List.mem_append.1 hy with hy | hy
       ·rw [(List.mem_replicate.1 hy).2]; exact ⟨by decide, by decide, fun p hp => by simp [sC] at hp⟩
       ·exact (HSM.out 8).2 y hy⟩
      refine wp_mono (Q := onlyN fun _ a V => ∃ (Ac : Option Addr) (cc : Nat) (bc : Bool) (y71 y72 y73 y74 y75 y76 y77 y78 y79 y80 y81 : Value), intRow V (.slice Ac (evalW f (List.replicate (k + 1) sC ++ [sA 8 x.1])).length cc) (evalW f (List.replicate (k + 1) sC ++ [sA 8 x.1])) ∧ Below u1.heap.size u1 V ∧
       a = { tmps := #[Value.slice A l.length c, Value.agg #[Value.int .i64 x.1.axis, Value.int .i64 x.1.test, Value.string ⟨x.1.name.toArray⟩, Value.slice x.2.1 x.1.preds.length x.2.2], undef, Value.pointer (some ⟨w.heap.size, 0, none⟩), u4, Value.pointer (some ⟨t, 0, none⟩), Value.pointer (some ⟨w1.heap.size, 0, none⟩), Value.pointer (some ⟨b7, 0, none⟩), Value.pointer (some ⟨b8, 0, none⟩), Value.pointer (some ⟨b9, 0, none⟩), Value.slice Aa EA.length ca, Value.bool true, Value.slice Ab EA.length cb, Value.bool (rightL [sA 3 x.1]), Value.slice pa (k + 1) pc, Value.int .i64 (metW f x.1 k : Int), Value.slice Ac (evalW f (List.replicate (k + 1) sC ++ [sA 8 x.1])).length cc, Value.bool bc, undef, u19, Value.tuple #[Value.pointer (some ⟨t, 0, none⟩), Value.agg #[Value.slice Ar (f.flat 0).length cr, Value.int .i64 next]], Value.slice A l.length c, Value.tuple #[Value.pointer (some ⟨t, 0, none⟩), Value.agg #[Value.slice Ar (f.flat 0).length cr, Value.int .i64 next]], Value.pointer (some ⟨t, 0, none⟩), Value.agg #[Value.slice Ar (f.flat 0).length cr, Value.int .i64 next], Value.pointer (some ⟨t, 0, none⟩), Value.bool false, Value.bool false, Value.slice A l.length c, Value.bool true, Value.bool false, Value.bool false, undef, undef, undef, undef, undef, Value.pointer (some ⟨w.heap.size, 3, none⟩), Value.agg #[Value.int .i64 x.1.axis, Value.int .i64 x.1.test, Value.string ⟨x.1.name.toArray⟩, Value.slice none 0 0], Value.agg #[Value.int .i64 x.1.axis, Value.int .i64 x.1.test, Value.string ⟨x.1.name.toArray⟩, Value.slice none 0 0], Value.agg #[Value.int .i64 x.1.axis, Value.int .i64 x.1.test, Value.string ⟨x.1.name.toArray⟩, Value.slice none 0 0], Value.pointer (some ⟨b7, 0, none⟩), Value.pointer (some ⟨b8, 0, none⟩), Value.pointer (some ⟨b9, 0, none⟩), Value.tuple #[Value.slice Aa EA.length ca, Value.bool true], Value.pointer (some ⟨t, 0, none⟩), Value.agg #[Value.int .i64 2, Value.int .i64 x.1.test, Value.string ⟨x.1.name.toArray⟩, Value.slice none 0 0], Value.slice (some ⟨w6.heap.size, 0, none⟩) 1 1, Value.tuple #[Value.slice Aa EA.length ca, Value.bool true], Value.slice Aa EA.length ca, Value.bool true, Value.tuple #[Value.slice Ab EA.length cb, Value.bool (rightL [sA 3 x.1])], Value.pointer (some ⟨t, 0, none⟩), Value.agg #[Value.int .i64 3, Value.int .i64 x.1.test, Value.string ⟨x.1.name.toArray⟩, Value.slice none 0 0], Value.slice (some ⟨w8.heap.size, 0, none⟩) 1 1, Value.tuple #[Value.slice Ab EA.length cb, Value.bool (rightL [sA 3 x.1])], Value.slice Ab EA.length cb, Value.bool (rightL [sA 3 x.1]), Value.bool true, Value.bool false, undef, Value.slice Aa EA.length ca, Value.slice Ab EA.length cb, Value.bool true, Value.bool false, Value.int .i64 (k : Int), Value.bool true, Value.slice A14 k c14, Value.agg #[Value.int .i64 1, Value.int .i64 4, Value.string ⟨#[]⟩, Value.slice none 0 0], Value.slice (some ⟨W0.heap.size, 0, none⟩) 1 1, Value.slice pa (k + 1) pc, y71, y72, y73, y74, y75, y76, y77, y78, y79, y80, y81, u82, u83, u84, u85, u86, u87, u88, u89, u90, u91, u92, u93, u94, u95, u96, u97, undef, undef, undef, undef, undef, undef, undef, undef, undef, undef, undef, undef, undef, undef, undef, undef, undef, undef], defers := [] }) ?_ ?_
      ·have hbd : Below u1.heap.size u1 u1.drew := ⟨rfl, rfl, rfl, Nat.le_refl _, fun _ _ => rfl⟩
       refine wp_region_held_drew (S := fun V => V.cell? ⟨b9, 0, none⟩ = some (.int .i64 8) ∧ V.cell? ⟨b9, 1, none⟩ = some (.int .i64 x.1.test) ∧ V.cell? ⟨b9, 2, none⟩ = some (.string ⟨x.1.name.toArray⟩) ∧ V.cell? ⟨b9, 3, none⟩ = some (.slice none 0 0)) (by kernel_rfl) (HSV.out _ hbd) (fun hHeld => ?_)
       refine tkv 0 (h := tkv 2 (h := tkv 4 (h := ?_)))
       obtain ⟨v, hv⟩ : ∃ v, Hid (u1.drew = v) := ⟨_, rfl⟩
       rw [hv.out] at hbd hHeld ⊢
       have HB0' := Lib.hid hbd
       have HA0 := Lib.hid (HCA.out.below hbd)
       refine wpAnyH_ready (rs := [1, 5]) (by kernel_rfl) (by simp) ?_
       refine AllReadyH.cons (o := ⟨_, _, _, _, _, _⟩) rfl (fun K hK => ?_) (AllReadyH.cons (o := ⟨_, _, _, _, _, _⟩) rfl (fun K hK => ?_) AllReadyH.nil)
       ·go_simp
        have hbe : Below v.heap.size v (v.alloc (.cells #[] 45)) := (Below.refl _ v).alloc (Nat.le_refl _) _
        have HBE0 := Lib.hid (HB0'.out.trans (hbe.mono HB0'.out.size))
        refine hK.out _ _ (HSV.out _ HBE0.out) (fun hHeld => ?_)
        clear hK K
        try go_frame
        refine wpAnyH_ready (rs := [3, 5]) (by kernel_rfl) (by simp) ?_
        refine AllReadyH.cons (o := ⟨_, _, _, _, _, _⟩) rfl (fun K hK => ?_) (AllReadyH.cons (o := ⟨_, _, _, _, _, _⟩) rfl (fun K hK => ?_) AllReadyH.nil)
        ·obtain ⟨pa5, pc5, z2, pb, pn, pd, z4, hr5, hr6, hpn, hat, hb4, hb2⟩ := two_appends (B := u1.heap.size) (w := v) (List.replicate (k + 1) sC) pa pc HA0.out HB0'.out.size (by rw [HRL.out]; omega) (sA 8 x.1, none, 0) (fun h => by simp [sA] at h) (by simp [sA])
         subst hpn
         rw [HRL.out] at hr5 hr6
         unfold slotC sA at hr6
         refine step_append rfl (.tmp 73) (.tmp 74) 23 rfl _ _ rfl rfl hr5 ?_
         have HB2 := Lib.hid (HB0'.out.trans (hb2.mono HB0'.out.size))
         refine hK.out _ _ (HSV.out _ HB2.out) (fun hHeld => ?_)
         clear hK K
         try go_frame
         refine rdy 5 (fun K hK => ?_)
         go_simp
         have hb3 : Below z2.heap.size z2 (z2.alloc (.cells #[.int .i64 8, .int .i64 x.1.test, .string ⟨x.1.name.toArray⟩, .slice none 0 0] 45)) := (Below.refl _ z2).alloc (Nat.le_refl _) _
         have HB3' := Lib.hid (HB2.out.trans (hb3.mono HB2.out.size))
         refine hK.out _ _ (HSV.out _ HB3'.out) (fun hHeld => ?_)
         clear hK K
         try go_frame
         refine rdy 6 (fun K hK => ?_)
         refine step_append rfl (.tmp 75) (.tmp 77) 23 rfl _ _ rfl rfl hr6 ?_
         have HAT := Lib.hid hat
         have HBV := Lib.hid (HB0'.out.trans (hb4.mono HB0'.out.size))
         clear hr5 hr6 hat hb4 hb2 hb3 hbe
         obtain ⟨v9, hv9⟩ : ∃ v9, Hid (z4 = v9) := ⟨_, rfl⟩
         rw [hv9.out] at HAT HBV ⊢
         refine hK.out _ _ (HSV.out _ HBV.out) (fun hHeld => ?_)
         clear hK K
         try go_frame
         refine rdy 7 (fun K hK => ?_)
         go_simp
         have hev := set_any v9 (HT12.out.below HBV.out) (List.replicate (k + 1) sC ++ [sA 8 x.1]) pb pd HAT.out HSM8.out
         rw [HRL2.out] at hev
         try rw [HRL2.out]
         refine hev.mono ?_
         clear hev
         rintro e ve ⟨Ab', cb', rfl, hrb, hbb, _⟩
         have HRB' := Lib.hid hrb
         have HBE := Lib.hid (HBV.out.trans (hbb.mono HBV.out.size))
         clear hrb hbb
         refine hK.out _ _ (HSV.out _ HBE.out) (fun hHeld => ?_)
         clear hK K
         try go_frame
         refine tkv 8 (h := tkv 9 (h := tkv 10 (h := tkv 11 (h := tkv 12 (h := ?_)))))
         refine wpAnyH_done (by kernel_rfl) ?_ _
         dsimp only [onlyN]
         exact ⟨Ab', cb', _, _, _, _, _, _, _, _, _, _, _, _, HRB'.out, HBE.out, rfl⟩
        ·go_simp
         obtain ⟨v1', hv1⟩ : ∃ v1, Hid ((v.alloc (.cells #[] 45)).alloc (.cells #[.int .i64 8, .int .i64 x.1.test, .string ⟨x.1.name.toArray⟩, .slice none 0 0] 45) = v1) := ⟨_, rfl⟩
         have hb3 : Below v.heap.size v v1' := by rw [← hv1.out]; exact hbe.alloc (by simp) _
         have HB3' := Lib.hid (HB0'.out.trans (hb3.mono HB0'.out.size))
         have he : v1'.heap[v.heap.size]? = some (.cells #[] 45 (0, 0)) := by rw [← hv1.out]; exact (Below.heap_alloc _ _ _ (by simp)).trans (heap_alloc_new v _)
         have hx : v1'.heap[v.heap.size + 1]? = some (.cells (slotC (sA 8 x.1, none, 0)) 45 (0, 0)) := by
          rw [← hv1.out]
          have := heap_alloc_new (v.alloc (.cells #[] 45)) (.cells #[.int .i64 8, .int .i64 x.1.test, .string ⟨x.1.name.toArray⟩, .slice none 0 0] 45)
          simpa [slotC, sA] using this
         obtain ⟨pa5, pc5, z2, pb, pn, pd, z4, hr5, hr6, hpn, hat, hb4, hb2⟩ := two_appends2 (B := u1.heap.size) (N := v.heap.size) (w := v1') (List.replicate (k + 1) sC) pa pc (HCA.out.below HB3'.out) HB0'.out.size hb3.size (by rw [HRL.out]; omega) (sA 8 x.1, none, 0) (fun h => by simp [sA] at h) (by simp [sA]) he hx (by omega) (Nat.le_refl _)
         subst hpn
         rw [HRL.out] at hr5 hr6
         rw [hv1.out]
         refine hK.out _ _ (HSV.out _ HB3'.out) (fun hHeld => ?_)
         clear hK K
         try go_frame
         refine rdy 3 (fun K hK => ?_)
         refine step_append rfl (.tmp 73) (.tmp 74) 23 rfl _ _ rfl rfl hr5 ?_
         have HB2 := Lib.hid (HB3'.out.trans (hb2.mono HB0'.out.size))
         refine hK.out _ _ (HSV.out _ HB2.out) (fun hHeld => ?_)
         clear hK K
         try go_frame
         refine rdy 6 (fun K hK => ?_)
         refine step_append rfl (.tmp 75) (.tmp 77) 23 rfl _ _ rfl rfl hr6 ?_
         have HAT := Lib.hid hat
         have HBV := Lib.hid (HB3'.out.trans (hb4.mono HB0'.out.size))
         clear hr5 hr6 hat hb4 hb2 hb3 hbe he hx
         obtain ⟨v9, hv9⟩ : ∃ v9, Hid (z4 = v9) := ⟨_, rfl⟩
         rw [hv9.out] at HAT HBV ⊢
         refine hK.out _ _ (HSV.out _ HBV.out) (fun hHeld => ?_)
         clear hK K
         try go_frame
         refine rdy 7 (fun K hK => ?_)
         go_simp
         have hev := set_any v9 (HT12.out.below HBV.out) (List.replicate (k + 1) sC ++ [sA 8 x.1]) pb pd HAT.out HSM8.out
         rw [HRL2.out] at hev
         try rw [HRL2.out]
         refine hev.mono ?_
         clear hev
         rintro e ve ⟨Ab', cb', rfl, hrb, hbb, _⟩
         have HRB' := Lib.hid hrb
         have HBE := Lib.hid (HBV.out.trans (hbb.mono HBV.out.size))
         clear hrb hbb
         refine hK.out _ _ (HSV.out _ HBE.out) (fun hHeld => ?_)
         clear hK K
         try go_frame
         refine tkv 8 (h := tkv 9 (h := tkv 10 (h := tkv 11 (h := tkv 12 (h := ?_)))))
         refine wpAnyH_done (by kernel_rfl) ?_ _
         dsimp only [onlyN]
         exact ⟨Ab', cb', _, _, _, _, _, _, _, _, _, _, _, _, HRB'.out, HBE.out, rfl⟩
       ·go_simp
        obtain ⟨v0, hv0⟩ : ∃ v0, Hid (v.alloc (.cells #[.int .i64 8, .int .i64 x.1.test, .string ⟨x.1.name.toArray⟩, .slice none 0 0] 45) = v0) := ⟨_, rfl⟩
        have hb0 : Below v.heap.size v v0 := by rw [← hv0.out]; exact (Below.refl _ v).alloc (Nat.le_refl _) _
        have HB1' := Lib.hid (HB0'.out.trans (hb0.mono HB0'.out.size))
        have hx0 : v0.heap[v.heap.size]? = some (.cells (slotC (sA 8 x.1, none, 0)) 45 (0, 0)) := by rw [← hv0.out]; exact heap_alloc_new v _
        have hz0 : v.heap.size < v0.heap.size := (Array.getElem?_eq_some_iff.1 hx0).1
        rw [hv0.out]
        refine hK.out _ _ (HSV.out _ HB1'.out) (fun hHeld => ?_)
        clear hK K
        try go_frame
        refine rdy 1 (fun K hK => ?_)
        go_simp
        obtain ⟨v1', hv1⟩ : ∃ v1, Hid (v0.alloc (.cells #[] 45) = v1) := ⟨_, rfl⟩
        have hb1 : Below v0.heap.size v0 v1' := by rw [← hv1.out]; exact (Below.refl _ v0).alloc (Nat.le_refl _) _
        have hb3 := hb0.trans (hb1.mono hb0.size)
        have HB3' := Lib.hid (HB0'.out.trans (hb3.mono HB0'.out.size))
        have he : v1'.heap[v0.heap.size]? = some (.cells #[] 45 (0, 0)) := by rw [← hv1.out]; exact heap_alloc_new v0 _
        have hx : v1'.heap[v.heap.size]? = some (.cells (slotC (sA 8 x.1, none, 0)) 45 (0, 0)) := (hb1.block _ hz0).trans hx0
        obtain ⟨pa5, pc5, z2, pb, pn, pd, z4, hr5, hr6, hpn, hat, hb4, hb2⟩ := two_appends2 (B := u1.heap.size) (N := v.heap.size) (w := v1') (List.replicate (k + 1) sC) pa pc (HCA.out.below HB3'.out) HB0'.out.size hb3.size (by rw [HRL.out]; omega) (sA 8 x.1, none, 0) (fun h => by simp [sA] at h) (by simp [sA]) he hx (by omega) (by omega)
        subst hpn
        rw [HRL.out] at hr5 hr6
        rw [hv1.out]
        refine hK.out _ _ (HSV.out _ HB3'.out) (fun hHeld => ?_)
        clear hK K
        try go_frame
        refine rdy 3 (fun K hK => ?_)
        refine step_append rfl (.tmp 73) (.tmp 74) 23 rfl _ _ rfl rfl hr5 ?_
        have HB2 := Lib.hid (HB3'.out.trans (hb2.mono HB0'.out.size))
        refine hK.out _ _ (HSV.out _ HB2.out) (fun hHeld => ?_)
        clear hK K
        try go_frame
        refine rdy 6 (fun K hK => ?_)
        refine step_append rfl (.tmp 75) (.tmp 77) 23 rfl _ _ rfl rfl hr6 ?_
        have HAT := Lib.hid hat
        have HBV := Lib.hid (HB3'.out.trans (hb4.mono HB0'.out.size))
        clear hr5 hr6 hat hb4 hb2 hb3 he hx hb0 hb1 hx0 hz0
        obtain ⟨v9, hv9⟩ : ∃ v9, Hid (z4 = v9) := ⟨_, rfl⟩
        rw [hv9.out] at HAT HBV ⊢
        refine hK.out _ _ (HSV.out _ HBV.out) (fun hHeld => ?_)
        clear hK K
        try go_frame
        refine rdy 7 (fun K hK => ?_)
        go_simp
        have hev := set_any v9 (HT12.out.below HBV.out) (List.replicate (k + 1) sC ++ [sA 8 x.1]) pb pd HAT.out HSM8.out
        rw [HRL2.out] at hev
        try rw [HRL2.out]
        refine hev.mono ?_
        clear hev
        rintro e ve ⟨Ab', cb', rfl, hrb, hbb, _⟩
        have HRB' := Lib.hid hrb
        have HBE := Lib.hid (HBV.out.trans (hbb.mono HBV.out.size))
        clear hrb hbb
        refine hK.out _ _ (HSV.out _ HBE.out) (fun hHeld => ?_)
        clear hK K
        try go_frame
        refine tkv 8 (h := tkv 9 (h := tkv 10 (h := tkv 11 (h := tkv 12 (h := ?_)))))
        refine wpAnyH_done (by kernel_rfl) ?_ _
        dsimp only [onlyN]
        exact ⟨Ab', cb', _, _, _, _, _, _, _, _, _, _, _, _, HRB'.out, HBE.out, rfl⟩
      ·intro e a u2 h
       cases e <;> first | exact False.elim h | skip
       obtain ⟨Ac, cc, bc, y71, y72, y73, y74, y75, y76, y77, y78, y79, y80, y81, hrc, hcb, rfl⟩ := h
       dsimp only
       obtain ⟨EC, hEC⟩ : ∃ E, Hid (evalW f (List.replicate (k + 1) sC ++ [sA 8 x.1]) = E) := ⟨_, rfl⟩
       have hms := met_step HT11.out.inv x.1 HBB.out (k := k) (by omega)
       have hcl := evalW_len HT11.out.inv (List.replicate (k + 1) sC ++ [sA 8 x.1])
       have hcm : ∀ y ∈ EC, y ∈ EA := fun y hy => by
        rw [← hEC.out, eval_chain HT11.out.inv x.1 HBB.out (by omega)] at hy
        obtain ⟨h1, h2⟩ := List.mem_filter.1 hy
        rw [HEA.out]
        rw [Bool.and_eq_true] at h2
        exact List.mem_filter.2 ⟨h1, h2.1⟩
       rw [hEC.out] at hms hcl hrc ⊢
       have HMS := Lib.hid hms
       have HCM := Lib.hid hcm
       have HRC := Lib.hid hrc
       have HCB := Lib.hid hcb
       have hea := evalW_len HT11.out.inv [sA 2 x.1]
       rw [hEA.out] at hea
       have hml := met_le f x.1 k
       rw [← HEA.out] at hml
       have m0 : (0 : Int) ≤ (metW f x.1 k : Int) := by omega
       have m1 : (metW f x.1 k : Int) ≤ 1000 := by omega
       have c0 : (0 : Int) ≤ (EC.length : Int) := by omega
       have c1 : (EC.length : Int) ≤ 1000 := by omega
       have HEAL := Lib.hid hea
       obtain ⟨mm, hmm⟩ : ∃ mm, Hid (metW f x.1 k = mm) := ⟨_, rfl⟩
       rw [hmm.out] at m0 m1 ⊢
       clear hms hcm hrc hcb hea hml hcl
       go_wp2_with fail
       go_loopw [84] (fun o wr => ∃ q : Nat, o = .int .i64 (q : Int) ∧ q ≤ EC.length ∧ Hid (Below u2.heap.size u2 wr)) (fun o _ => EC.length - (intOf o).toNat)
       case atStart => exact ⟨0, rfl, Nat.zero_le _, Below.refl _ _⟩
       case round =>
        obtain ⟨q, rfl, hq, hbq⟩ := hrel
        have q0 : (0 : Int) ≤ (q : Int) := by omega
        by_cases hql : q < EC.length
        ·have q1 : (q : Int) < (EC.length : Int) := by omega
         obtain ⟨y, hy⟩ : ∃ y, Hid (EC[q]? = some y) := ⟨EC[q], List.getElem?_eq_getElem _⟩
         obtain ⟨g, hgA⟩ : ∃ g, Ac = some ⟨g, 0, none⟩ := by
          rcases HRC.out.2 with ⟨_, h⟩ | ⟨g, cap, cur, h, _⟩
          ·omega
          ·injection h with h _ _; exact ⟨g, h⟩
         subst hgA
         have hr7 : intRow wr (.slice (some ⟨g, 0, none⟩) EC.length cc) EC := row_block HRC.out fun b hb => hbq.out.block b (row_lt HRC.out hb)
         have ck := own_cell hr7 q (.int .i64 y) (by rw [List.getElem?_map, hy.out]; rfl)
         have hbw : Below v2.heap.size v2 wr := HBU.out.trans ((HCB.out.trans (hbq.out.mono HCB.out.size)).mono HBU.out.size)
         have HRAW : Hid (intRow wr (.slice Aa EA.length ca) EA) := row_block HRA11.out fun b hb => hbw.block b (row_lt HRA11.out hb)
         clear hr7 hbw
         go_wp2_with fail
         refine (in_any Aa ca EA y wr HRAW.out (by have := HEAL.out; omega) true (decide_eq_true (HCM.out y (List.mem_of_getElem? hy.out)))).mono ?_
         rintro e w7' ⟨rfl, hb7⟩
         have HBQ := Lib.hid (hbq.out.trans (hb7.mono hbq.out.size))
         clear hb7
         go_wp2_with fail
         go_roundw
         case rel => exact ⟨q + 1, by go_num, by omega, HBQ.out⟩
         case measure => simp [intOf]; omega
        ·have q1 : ¬ (q : Int) < (EC.length : Int) := by omega
         have HBW : Hid (Below v2.heap.size v2 wr) := HBU.out.trans ((HCB.out.trans (hbq.out.mono HCB.out.size)).mono HBU.out.size)
         have HCW : Hid (ChainAt wr pa pc (k + 1)) := row_block HCH.out fun b hb => (HCB.out.trans (hbq.out.mono HCB.out.size)).block b (row_lt HCH.out hb)
         have HMM : Hid ((metW f x.1 (k + 1) : Int) = (mm : Int) + (EC.length : Int)) := by show _ = _; rw [HMS.out, hmm.out]; omega
         go_wp2_with fail
         go_roundw
         case rel => exact ⟨k + 1, pa, pc, by omega, by go_num, by rw [HMM.out], by go_num, HCW.out, HFU.out, HBW.out⟩
         case measure => simp [intOf]; omega
     ·have hkm : k = 19 := by omega
      subst hkm
      have HTW := Lib.hid (HT11.out.below hbl.out)
      have HBW := Lib.hid (HB11.out.trans (hbl.out.mono HB11.out.size))
      have hml := met_le f x.1 19
      rw [← HEA.out] at hml
      have hdp := met_deep HT11.out.inv x.1
      rw [← HEA.out] at hdp
      obtain ⟨mm, hmm⟩ : ∃ mm, Hid (metW f x.1 19 = mm) := ⟨_, rfl⟩
      rw [hmm.out] at hml hdp ⊢
      have HDP := Lib.hid hdp
      have hfc := HT11.out.inv.cnt
      clear hdp hmm
      go_wp2_with fail
      refine (aliveW_any W0).mono ?_
      rintro e v3 ⟨rfl, hc3⟩
      have HB12 := Lib.hid (HBW.out.trans (hc3.mono HBW.out.size))
      have HT12 := Lib.hid (HTW.out.below hc3)
      clear hc3
      by_cases hme : mm = EA.length
      ·have hb : ((mm : Int) == (EA.length : Int)) = true := by rw [hme]; simp
       clear hml
       go_wp2_with fail
       go_ret
       exact ⟨rfl, HB12.out⟩
      ·have hb : ((mm : Int) == (EA.length : Int)) = false := by simp; omega
       have hlt : (mm : Int) < (EA.length : Int) := by omega
       have hcn := HDP.out hme
       have hcn' : (19 : Int) ≤ (f.cnt : Int) := by omega
       clear hme hml hcn
       go_wp2_with fail
       refine (Len_in HT12.out).mono ?_
       rintro e v4 ⟨rfl, rfl⟩
       go_wp2_with fail
       go_ret
       exact ⟨rfl, HB12.out⟩
 ·refine (small_any A l.length c w2 false (decide_eq_false h40)).mono ?_
  rintro e w3 ⟨rfl, hb3⟩
  have HB3 := Lib.hid (HB2.out.trans (hb3.mono HB2.out.size))
  have HT3 := Lib.hid (HT2.out.below hb3)
  have HX3 : Hid (w3.heap[w.heap.size]? = some (.cells (slotC x) 45 (0, 0))) := (hb3.block _ (Array.getElem?_eq_some_iff.1 HX2.out).1).trans HX2.out
  clear hb3
  go_wp2_with fail
  refine (aliveW_any w3).mono ?_
  rintro e w4 ⟨rfl, hb4⟩
  have HB4 := Lib.hid (HB3.out.trans (hb4.mono HB3.out.size))
  clear hb4
  go_wp2_with fail
  go_ret
  exact ⟨rfl, HB4.out⟩
end
end Go.Proofs.YtcombcoilpmnkaaGreat
