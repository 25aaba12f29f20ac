/-
  Texts of this claim, joined (by a program of the claim's author): WSel, WTstP, WTst, WTsw, WDepP, WParP, WPar, WMkd.
-/
import Derived.Test.YtcombcoilpmnkaaGreatWP1
import Derived.Test.YtcombcoilpmnkaaGreatWP17
import Derived.Test.YtcombcoilpmnkaaGreatWP12
import Derived.Test.YtcombcoilpmnkaaGreatWP9
namespace Go.Proofs.YtcombcoilpmnkaaGreat
set_option maxRecDepth 100000
set_option maxHeartbeats 16000000
section
open Go.RowKit Go.Shelf
theorem small_any (A : Option Addr) (n c : Nat) (w : World) (r : Bool) (hr : Hid (decide ((n : Int) ≤ 40) = r)) : Calls Tryz.prog 11 #[.slice A n c] w (Ret w (.bool r)) := by
 go_enter Tryz.func11, Tryz.ntmps11
 go_wp2_with fail
 go_ret
 rw [← hr.out]
 exact ⟨rfl, Below.refl _ _⟩
end
section
def sT (axis test : Int) : StepD := ⟨axis, test, [], []⟩
section
variable {f : Fo} {next : Int}
theorem kind_two (h : InvF f next) {y : Int} (hy : y ∈ f.ids) : (entW f y).d.kind = 1 ∨ (entW f y).d.kind = 2 := by
 obtain ⟨lv, _, _, _, _, _, _, _, hp, _⟩ := h.stand (ent_of h hy).2
 unfold partsE at hp
 split at hp
 ·rename_i hk; exact .inr hk.1
 ·split at hp
  ·cases hp
  ·rename_i hk
   simp only [not_or, Decidable.not_not] at hk
   exact .inl hk.1
def reachW (f : Fo) (G : Int → Bool) (axis y : Int) : Bool := (0 :: f.ids).any fun id => G id && decide (y ∈ axisW f axis id)
end
end
section
open Go.RowKit Go.Shelf
theorem step_append {P : Program} {ops : Array Oper} {o : Oper} {a : Act} {w : World} {K : Act → World → Prop} {Q : Exit → Act → World → Prop} {E : Prop}
  (hg : o.guard = none) (s x : Operand) (t : TypeId) (hop : o.op = Op.call { callee := Callee.builtin Builtin.append, args := #[s, x], argTypes := #[t, t] })
  (v u : Value) (hs : a.eval s = v) (hx : a.eval x = u) {v' : Value} {w' : World} (hr : (Builtin.append_ #[t, t] o.type #[v, u]).run P w = .ok v' w') (hK : K (a.put o.dst v') w') :
  if Region.wanted o (yielded ops a.tmps) = true then Oper.wp P o a w K Q else E := by
 have hw : Region.wanted o (yielded ops a.tmps) = true := by simp [Region.wanted, hg]
 rw [if_pos hw]
 unfold Oper.wp execOp
 simp only [hop, resolve, invoke, builtin, Sem.run_bind, Sem.run_pure, Result.andThen_ok, List.map_toArray, List.map_cons, List.map_nil, hs, hx, hr]
 exact hK
theorem two_appends2 {w : World} {B N e b : Nat} (s : List StepD) (As : Option Addr) (cs : Nat) (hA : StepsAt w B As s) (hB : B ≤ N) (hNw : N ≤ w.heap.size) (hl : s.length ≤ 100000) (x : QSlot) (hx : PredsAt w B x.2.1 x.1.preds) (hxc : x.1.preds.length ≤ x.2.2)
  (he : w.heap[e]? = some (.cells #[] 45 (0, 0))) (hb : w.heap[b]? = some (.cells (slotC x) 45 (0, 0))) (hne : b ≠ e) (hN : N ≤ e) :
  ∃ pa pc w2 pb pn pd w4, (Builtin.append_ #[23, 23] 23 #[.slice (some ⟨e, 0, none⟩) 0 0, .slice As s.length cs]).run Tryz.prog w = .ok (.slice pa s.length pc) w2 ∧
   (Builtin.append_ #[23, 23] 23 #[.slice pa s.length pc, .slice (some ⟨b, 0, none⟩) 1 1]).run Tryz.prog w2 = .ok (.slice pb pn pd) w4 ∧ pn = (s ++ [x.1]).length ∧ StepsAt w4 w4.heap.size pb (s ++ [x.1]) ∧ Below N w w4 ∧ Below N w w2 := by
 obtain ⟨T, hT1, hT2, hT3⟩ := steps_slots hA
 have hTl : T.length = s.length := by rw [← hT1, List.length_map]
 have hown : StepsOwn w 0 (some ⟨e, 0, none⟩) 0 [] := ⟨by simp, .inr ⟨e, 0, #[], rfl, Nat.zero_le _, he, by simp, by simp, by simp⟩⟩
 obtain ⟨pa, pn, pc, w2, hr, hpn, ho2, hg2, hf2⟩ := run_append_steps hown T As cs hT3 (by simp) (by omega)
 have hpn' : pn = s.length := by rw [hpn]; simpa using hTl
 subst hpn'
 have hlt := (Array.getElem?_eq_some_iff.1 he).1
 have hb2 : Below N w w2 := (Below.refl N w).grown hg2 hNw (fun j hj => by have hj : e = j := Option.some.inj hj; omega)
 have hS2 : ([] ++ T : List QSlot) = T := rfl
 rw [hS2] at ho2 hf2
 have hx2 : w2.heap[b]? = some (.cells (slotC x) 45 (0, 0)) := (hg2.block b (Array.getElem?_eq_some_iff.1 hb).1 (fun h => hne (Option.some.inj h))).trans hb
 obtain ⟨pb, pm, pd, w4, hr4, hpm, ho4, hg4, hf4⟩ := run_append_steps ho2 [x] (some ⟨b, 0, none⟩) 1 (sl_one x hx2) (by omega) (by simp)
 have hb4 : Below N w w4 := hb2.grown hg4 (Nat.le_trans hNw hb2.size) (fun j hj => by
  rcases hf2 j (by simpa using hj) with h2 | h2
  ·have h2 : e = j := Option.some.inj h2; omega
  ·omega)
 have hp4 : SlP w4 B (T ++ [x]) := SlP.below (w := w) (SlP.app hT2 fun y hy => by rw [List.mem_singleton.1 hy]; exact ⟨hx, hxc⟩) (hb4.mono hB)
 have hat := StepsOwn.atW ho4 hp4 (Nat.le_trans hB (Nat.le_trans hNw hb4.size))
 rw [List.map_append, hT1] at hat
 exact ⟨pa, pc, w2, pb, pm, pd, w4, by simpa [hTl] using hr, by simpa [hTl] using hr4, by rw [hpm]; simp [hTl], hat, hb4, hb2⟩
section
variable {M : Nat → Prop} {t : Nat} {f : Fo} {next : Int}
end
end
section
open Go.RowKit Go.Shelf
theorem in_any (A : Option Addr) (c : Nat) (l : List Int) (x : Int) (w : World) (hr : intRow w (.slice A l.length c) l) (hl : l.length ≤ 1000000) (r : Bool) (hres : Hid (decide (x ∈ l) = r)) : Calls Tryz.prog 21 #[.slice A l.length c, .int .i64 x] w (Ret w (.bool r)) := by
 have HR := Lib.hid hr
 have l0 : (0 : Int) ≤ (l.length : Int) := by omega
 have l1 : (l.length : Int) ≤ 1000000 := by omega
 clear hr
 go_enter Tryz.func21, Tryz.ntmps21
 go_wp2_with fail
 go_loopw [9] (fun i wr => ∃ k : Nat, i = .int .i64 (k : Int) ∧ k ≤ l.length ∧ Hid (x ∉ l.take k) ∧ Hid (wr = w)) (fun i _ => l.length - (intOf i).toNat)
 case atStart => exact ⟨0, rfl, Nat.zero_le _, by show _ ∉ _; simp, rfl⟩
 case round =>
  obtain ⟨k, rfl, hk, hno, hw⟩ := hrel
  have hw' := hw.out
  subst hw'
  have k0 : (0 : Int) ≤ (k : Int) := by omega
  by_cases hkl : k < l.length
  ·have k1 : (k : Int) < (l.length : Int) := by omega
   obtain ⟨y, hy⟩ : ∃ y, Hid (l[k]? = some y) := ⟨l[k], List.getElem?_eq_getElem _⟩
   obtain ⟨g, hgA⟩ : ∃ g, A = some ⟨g, 0, none⟩ := by
    rcases HR.out.2 with ⟨_, h⟩ | ⟨g, cap, cur, h, _⟩
    ·omega
    ·injection h with h _ _; exact ⟨g, h⟩
   subst hgA
   have ck := own_cell HR.out k (.int .i64 y) (by rw [List.getElem?_map, hy.out]; rfl)
   by_cases hyx : y = x
   ·have hb : (y == x) = true := by simpa using hyx
    have HF : Hid (r = true) := by
     show _ = _
     rw [← hres.out]
     exact decide_eq_true (hyx ▸ List.mem_of_getElem? hy.out)
    clear hyx
    go_wp2_with fail
    go_ret
    exact ⟨by rw [HF.out]; rfl, Below.refl _ _⟩
   ·have hb : (y == x) = false := by simpa using hyx
    have HNO : Hid (x ∉ l.take (k + 1)) := by
     show _ ∉ _
     rw [List.take_add_one, hy.out, List.mem_append, not_or]
     exact ⟨hno.out, by simpa using fun e => hyx e.symm⟩
    clear hyx
    go_wp2_with fail
    go_roundw
    case rel => exact ⟨k + 1, by go_num, by omega, HNO.out, trivial⟩
    case measure => simp [intOf]; omega
  ·have k1 : ¬ (k : Int) < (l.length : Int) := by omega
   have HF : Hid (r = false) := by
    show _ = _
    rw [← hres.out]
    have := hno.out
    rw [List.take_of_length_le (by omega)] at this
    exact decide_eq_false this
   go_wp2_with fail
   go_ret
   exact ⟨by rw [HF.out]; rfl, Below.refl _ _⟩
theorem evalW_len {f : Fo} {next : Int} (h : InvF f next) (l : List StepD) : (evalW f l).length ≤ 1000 := by
 unfold evalW
 split
 ·have := List.length_filter_le (foundW f l fun x => decide (x = 0)) f.ids
  rw [Fo.ids_len] at this
  have := h.cnt
  omega
 ·simp
end
section
def sC : StepD := ⟨1, 4, [], []⟩
def sA (a : Int) (x : StepD) : StepD := ⟨a, x.test, x.name, []⟩
section
variable {f : Fo} {next : Int}
def metW (f : Fo) (x : StepD) (k : Nat) : Nat := (f.ids.filter fun y => testW x (entW f y).d && decide ((ancW f y).length ≤ k)).length
end
end
section
def mark (i : Nat) : StepD := ⟨1, 4, [], [⟨1, (i : Int) + 1, [], []⟩]⟩
def Leads (f : Fo) (ms : List StepD) (a b : Int) : Prop := foundW f ms (fun y => decide (y = a)) = fun y => decide (y = b)
section
variable {f : Fo} {next : Int}
theorem left_place (f : Fo) (i many : Nat) : ∀ (l : List Int) (n : Nat), leftW f ⟨1, (i : Int) + 1, [], []⟩ many n l = if n ≤ i then (l[i - n]?).toList else []
 | [], n => by simp [leftW]
 | x :: l, n => by
  have ih := left_place f i many l (n + 1)
  unfold leftW
  rw [ih]
  have hk : keepsW f ⟨1, (i : Int) + 1, [], []⟩ x n many = decide (n = i) := by
   unfold keepsW
   simp only [if_pos]
   exact decide_eq_decide.2 (by omega)
  rw [hk]
  by_cases h1 : n = i
  ·subst h1
   have h2 : ¬ n + 1 ≤ n := by omega
   simp [h2]
  ·by_cases h2 : n ≤ i
   ·have h3 : n + 1 ≤ i := by omega
    rw [if_neg (by simpa using h1), if_pos h3, if_pos h2, show i - n = (i - (n + 1)) + 1 by omega, List.getElem?_cons_succ]
   ·have h3 : ¬ n + 1 ≤ i := by omega
    rw [if_neg (by simpa using h1), if_neg h3, if_neg h2]
theorem mark_step {q x : Int} {i : Nat} (hi : (kidsW f q)[i]? = some x) : stepW f (mark i) q = [x] := by
 have e1 : axisW f (mark i).axis q = kidsW f q := by unfold axisW; exact if_pos (rfl : (mark i).axis = 1)
 have e2 : ∀ l : List Int, (l.filter fun y => testW (mark i) (entW f y).d) = l := fun l => List.filter_eq_self.2 fun y _ => by simp [testW, mark]
 unfold stepW
 rw [e1, e2]
 show predsW f [] (leftW f ⟨1, (i : Int) + 1, [], []⟩ (kidsW f q).length 0 (kidsW f q)) = [x]
 rw [left_place, if_pos (Nat.zero_le _), Nat.sub_zero, hi]
 rfl
theorem leads_nil (f : Fo) (a : Int) : Leads f [] a a := rfl
theorem leads_cons {q x b : Int} {i : Nat} {ms : List StepD} (hq : q ∈ 0 :: f.ids) (hi : (kidsW f q)[i]? = some x) (h : Leads f ms x b) : Leads f (mark i :: ms) q b := by
 unfold Leads at *
 rw [← h]
 have e : (fun y => (0 :: f.ids).any fun id => decide (id = q) && decide (y ∈ stepW f (mark i) id)) = fun y => decide (y = x) := by
  funext y
  have e' : ∀ a b : Bool, (a = true ↔ b = true) → a = b := fun a b h => by cases a <;> cases b <;> simp_all
  refine e' _ _ ?_
  rw [List.any_eq_true, decide_eq_true_iff]
  constructor
  ·rintro ⟨z, _, hz⟩
   rw [Bool.and_eq_true, decide_eq_true_iff, decide_eq_true_iff] at hz
   rw [hz.1, mark_step hi] at hz
   exact List.mem_singleton.1 hz.2
  ·intro hy
   refine ⟨q, hq, ?_⟩
   rw [Bool.and_eq_true, decide_eq_true_iff, decide_eq_true_iff, mark_step hi]
   exact ⟨rfl, List.mem_singleton.2 hy⟩
 rw [foundW, e]
theorem leads_end {ms : List StepD} {s : StepD} {x y : Int} (h : Leads f ms 0 x) (hy : y ∈ evalW f (ms ++ [s])) : y ∈ f.ids ∧ y ∈ stepW f s x := by
 unfold evalW at hy
 split at hy
 ·obtain ⟨h1, h2⟩ := List.mem_filter.1 hy
  refine ⟨h1, ?_⟩
  unfold Leads at h
  rw [foundW_app, h, foundW, foundW, List.any_eq_true] at h2
  obtain ⟨z, _, hz⟩ := h2
  rw [Bool.and_eq_true, decide_eq_true_iff, decide_eq_true_iff] at hz
  rw [hz.1] at hz
  exact hz.2
 ·simp at hy
theorem evalW_ids {l : List StepD} {y : Int} (hy : y ∈ evalW f l) : y ∈ f.ids := by
 unfold evalW at hy
 split at hy
 ·exact (List.mem_filter.1 hy).1
 ·simp at hy
theorem part_in {l : List StepD} {s : StepD} {x y : Int} (hr : rightL (l ++ [s]) = true) (hx : x ∈ evalW f l) (hy : y ∈ f.ids) (hs : y ∈ stepW f s x) : y ∈ evalW f (l ++ [s]) := by
 unfold evalW at hx
 split at hx
 ·obtain ⟨h1, h2⟩ := List.mem_filter.1 hx
  unfold evalW
  rw [if_pos hr]
  refine List.mem_filter.2 ⟨hy, ?_⟩
  rw [foundW_app, foundW, foundW, List.any_eq_true]
  exact ⟨x, List.mem_cons_of_mem _ h1, by rw [Bool.and_eq_true, decide_eq_true_iff]; exact ⟨h2, hs⟩⟩
 ·simp at hx
def idxW (f : Fo) (x : Int) : Nat := (kidsW f (entW f x).par).idxOf x
theorem idx_ahead : ∀ (l : List Int) (x : Int) (k : Nat) (z : Int), k < l.idxOf x → l[k]? = some z → z ≠ x
 | [], _, _, _, _, h => by simp at h
 | a :: l, x, k, z, hk, h => by
  rw [List.idxOf_cons] at hk
  by_cases ha : a = x
  ·simp [ha] at hk
  ·have hb : (a == x) = false := by simpa using ha
   rw [hb] at hk
   cases k with
   | zero =>
    simp at h
    rw [← h]; exact ha
   | succ k =>
    rw [List.getElem?_cons_succ] at h
    exact idx_ahead l x k z (by simpa using hk) h
theorem idx_at (h : InvF f next) {x : Int} (hx : x ∈ f.ids) : (kidsW f (entW f x).par)[idxW f x]? = some x := by
 have hm := bes_mem h hx
 unfold idxW
 rw [List.getElem?_eq_getElem (List.idxOf_lt_length_of_mem hm)]
 exact congrArg some (List.getElem_idxOf _)
theorem idx_zero (h : InvF f next) {x : Int} (hx : x ∈ f.ids) (hp : (entW f x).par = 0) : idxW f x = 0 := by
 have hm := bes_mem h hx
 rw [hp] at hm
 unfold idxW
 rw [hp]
 unfold kidsW at *
 rw [entW_eq (gW_zero f)] at *
 cases hf : f with
 | nil => rw [hf] at hm; simp [Fo.roots] at hm
 | cons id d ks r =>
  obtain ⟨hr, _⟩ := h.one id d ks r hf
  rw [hf, hr] at hm
  have hm' : x = id := by simpa [Fo.roots] using hm
  rw [hr, hm']
  simp [Fo.roots]
theorem idx_le (h : InvF f next) {x : Int} (hx : x ∈ f.ids) : idxW f x < 1000 := by
 by_cases hp : (entW f x).par = 0
 ·rw [idx_zero h hx hp]; decide
 ·have h1 := (List.getElem?_eq_some_iff.1 (idx_at h hx)).1
  have hq : (entW f x).par ∈ f.ids := by
   rcases List.mem_cons.1 (anc_step h hx).2 with h2 | h2
   ·exact absurd h2 hp
   ·exact h2
  have h2 : (kidsW f (entW f x).par).length ≤ 1000 := h.kidsN _ _ (ent_of h hq).2
  omega
end
end
section
open Go.RowKit Go.Shelf
theorem StepsOwn.sl {w : World} {A : Option Addr} {c : Nat} {S : List QSlot} (h : StepsOwn w 0 A c S) : StepsSl w w.heap.size A S := fun hl => by
 obtain ⟨g, rfl, _, hg, _, hc⟩ := own_flatT cellsS cellsS_length h hl
 exact ⟨_, rfl, hg, fun k s hs j u hu => hc k s j u hs hu⟩
theorem own_oneS {w : World} {b : Nat} (x : QSlot) (h : w.heap[b]? = some (.cells (slotC x) 45 (0, 0))) : StepsOwn w 0 (some ⟨b, 0, none⟩) 1 [x] :=
 ⟨rfl, .inr ⟨b, 1, _, rfl, Nat.zero_le _, h, Nat.le_refl _, by decide, rfl, rfl⟩⟩
theorem mark_small (i : Nat) : SmallStep (mark i) := ⟨by simp [mark], by simp [mark], fun p hp => by
 rw [List.mem_singleton.1 hp]; exact ⟨by simp, by simp⟩⟩
def mkC (i : Nat) : Array Value := #[.int .i64 1, .int .i64 ((i : Int) + 1), .string ⟨#[]⟩, .string ⟨#[]⟩]
def MkAt (w : World) (x : QSlot) : Prop := ∃ i g, x = (mark i, some ⟨g, 0, none⟩, 1) ∧ w.heap[g]? = some (.cells (mkC i) 102 (0, 0))
def MkAll (w : World) (S : List QSlot) : Prop := ∀ x ∈ S, MkAt w x
theorem MkAll.below {w w' : World} {S : List QSlot} (h : MkAll w S) (hb : Below w.heap.size w w') : MkAll w' S := fun x hx => by
 obtain ⟨i, g, h1, h2⟩ := h x hx
 exact ⟨i, g, h1, (hb.block _ (Array.getElem?_eq_some_iff.1 h2).1).trans h2⟩
theorem MkAt.preds {w : World} {x : QSlot} (h : MkAt w x) : PredsAt w w.heap.size x.2.1 x.1.preds ∧ x.1.preds.length ≤ x.2.2 := by
 obtain ⟨i, g, rfl, h⟩ := h
 refine ⟨fun _ => ⟨_, rfl, (Array.getElem?_eq_some_iff.1 h).1, fun k p hk => ?_⟩, Nat.le_refl _⟩
 have hk0 : k = 0 := by have := (List.getElem?_eq_some_iff.1 hk).1; simp [mark] at this; omega
 subst hk0
 simp [mark] at hk
 subst hk
 rw [Nat.zero_mul, add_zero_block]
 exact ⟨cell_row h 0 _ rfl, cell_row h 1 _ rfl, cell_row h 2 _ rfl, cell_row h 3 _ rfl⟩
theorem MkAll.small {w : World} {S : List QSlot} (h : MkAll w S) : ∀ y ∈ S.map (·.1), SmallStep y := fun y hy => by
 obtain ⟨x, hx, rfl⟩ := List.mem_map.1 hy
 obtain ⟨i, g, rfl, _⟩ := h x hx
 exact mark_small i
theorem mark_grow {W : World} {A : Option Addr} {c i : Nat} {S : List QSlot} (ho : StepsOwn W 0 A c S) (hp : MkAll W S) (hl : S.length ≤ 10000) :
  ∃ pa pc w', (Builtin.append_ #[23, 23] 23 #[.slice (some ⟨W.heap.size + 1, 0, none⟩) 1 1, .slice A S.length c]).run Tryz.prog
    ((W.alloc (.cells #[.int .i64 1, .int .i64 ((i : Int) + 1), .string ⟨#[]⟩, .string ⟨#[]⟩] 102)).alloc (.cells #[.int .i64 1, .int .i64 4, .string ⟨#[]⟩, .slice (some ⟨W.heap.size, 0, none⟩) 1 1] 45)) = .ok (.slice pa ((mark i, some ⟨W.heap.size, 0, none⟩, 1) :: S : List QSlot).length pc) w' ∧
   StepsOwn w' 0 pa pc ((mark i, some ⟨W.heap.size, 0, none⟩, 1) :: S) ∧ (∀ b, (Value.slice pa ((mark i, some ⟨W.heap.size, 0, none⟩, 1) :: S : List QSlot).length pc).ownBlock = some b → W.heap.size ≤ b) ∧ Below W.heap.size W w' ∧ MkAll w' ((mark i, some ⟨W.heap.size, 0, none⟩, 1) :: S) := by
 obtain ⟨x0, hx0⟩ : ∃ x0 : QSlot, x0 = (mark i, some ⟨W.heap.size, 0, none⟩, 1) := ⟨_, rfl⟩
 rw [← hx0]
 obtain ⟨V1, hV1⟩ : ∃ V1, V1 = W.alloc (.cells #[.int .i64 1, .int .i64 ((i : Int) + 1), .string ⟨#[]⟩, .string ⟨#[]⟩] 102) := ⟨_, rfl⟩
 have hb1 : Below W.heap.size W V1 := by rw [hV1]; exact (Below.refl _ W).alloc (Nat.le_refl _) _
 have hz1 : V1.heap.size = W.heap.size + 1 := by rw [hV1]; simp
 have hp1 : V1.heap[W.heap.size]? = some (.cells (mkC i) 102 (0, 0)) := by rw [hV1]; exact heap_alloc_new W _
 rw [← hV1]
 obtain ⟨V2, hV2⟩ : ∃ V2, V2 = V1.alloc (.cells (slotC x0) 45) := ⟨_, rfl⟩
 have hs0 : slotC x0 = #[.int .i64 1, .int .i64 4, .string ⟨#[]⟩, .slice (some ⟨W.heap.size, 0, none⟩) 1 1] := by rw [hx0]; rfl
 rw [← hs0, ← hV2]
 have hb2 : Below V1.heap.size V1 V2 := by rw [hV2]; exact (Below.refl _ V1).alloc (Nat.le_refl _) _
 have hx2 : V2.heap[W.heap.size + 1]? = some (.cells (slotC x0) 45 (0, 0)) := by rw [hV2, ← hz1]; exact heap_alloc_new V1 _
 have hp2 : V2.heap[W.heap.size]? = some (.cells (mkC i) 102 (0, 0)) := (hb2.block _ (by omega)).trans hp1
 have hbW := hb1.trans (hb2.mono hb1.size)
 obtain ⟨pa, pn, pc, w', hr, hpn, ho', hg, hf⟩ := run_append_steps (own_oneS x0 hx2) S A c ((ho.sl).below hbW) (by simp) (by omega)
 have hpn' : pn = (x0 :: S).length := hpn
 subst hpn'
 have hb' : Below W.heap.size W w' := hbW.grown hg hbW.size (fun j hj => by have hj : W.heap.size + 1 = j := Option.some.inj hj; omega)
 have hz2 := hb2.size
 refine ⟨pa, pc, w', hr, ho', fun b hb => ?_, hb', ?_⟩
 ·rcases hf b hb with h | h
  ·have h : W.heap.size + 1 = b := Option.some.inj h; omega
  ·omega
 ·intro y hy
  rcases List.mem_cons.1 hy with rfl | hy
  ·exact ⟨i, W.heap.size, hx0, (hg.block W.heap.size (by omega) (fun h => by have h : W.heap.size = W.heap.size + 1 := Option.some.inj h; omega)).trans hp2⟩
  ·exact hp.below hb' y hy
theorem last_grow {W : World} {A : Option Addr} {c N : Nat} {S : List QSlot} (ho : StepsOwn W 0 A c S) (hp : MkAll W S) (hl : S.length ≤ 10000) (hN : N ≤ W.heap.size) (hf : ∀ b, (Value.slice A S.length c).ownBlock = some b → N ≤ b) (x : QSlot) (hx : PredsAt W N x.2.1 x.1.preds) (hc : x.1.preds.length ≤ x.2.2) :
  ∃ pa pc w', (Builtin.append_ #[23, 23] 23 #[.slice A S.length c, .slice (some ⟨W.heap.size, 0, none⟩) 1 1]).run Tryz.prog (W.alloc (.cells (slotC x) 45)) = .ok (.slice pa (S.map (·.1) ++ [x.1]).length pc) w' ∧
   StepsAt w' w'.heap.size pa (S.map (·.1) ++ [x.1]) ∧ Below N W w' := by
 have hb1 : Below W.heap.size W (W.alloc (.cells (slotC x) 45)) := (Below.refl _ W).alloc (Nat.le_refl _) _
 have ho1 : StepsOwn (W.alloc (.cells (slotC x) 45)) 0 A c S := row_block ho fun b hb => hb1.block b (row_lt ho hb)
 obtain ⟨pa, pn, pc, w', hr, hpn, ho', hg, _⟩ := run_append_steps ho1 [x] (some ⟨W.heap.size, 0, none⟩) 1 (sl_one x (heap_alloc_new W _)) (by omega) (by simp)
 have hpn' : pn = (S.map (·.1) ++ [x.1]).length := by rw [hpn]; simp
 subst hpn'
 have hb' : Below N W w' := (hb1.mono hN).grown hg (Nat.le_trans hN hb1.size) (fun j hj => hf j hj)
 have hp1 := hp.below hb1
 have hp' : SlP w' w'.heap.size (S ++ [x]) := fun y hy => by
  rcases List.mem_append.1 hy with hy | hy
  ·obtain ⟨i, g, h1, h2⟩ := hp1 y hy
   have h3 := row_not ho1 h2 (fun cur h => by injection h with _ h _; exact absurd h (by decide))
   exact MkAt.preds ⟨i, g, h1, (hg.block g (Array.getElem?_eq_some_iff.1 h2).1 (Ne.symm h3)).trans h2⟩
  ·rw [List.mem_singleton.1 hy]
   exact ⟨(hx.below hb').more (Nat.le_trans hN hb'.size), hc⟩
 have hat := StepsOwn.atW ho' hp' (Nat.le_refl _)
 rw [List.map_append] at hat
 exact ⟨pa, pc, w', hr, hat, hb'⟩
theorem Kid_zero {t : Nat} {f : Fo} {next : Int} {M : Nat → Prop} {w : World} (h : TreeM M t f next w) (k : Int) : Calls Tryz.prog 42 #[.pointer (some ⟨t, 0, none⟩), .int .i64 0, .int .i64 k] w fun er w' => er = .returned (.tuple #[.int .i64 0, .bool false]) ∧ w = w' := by
 obtain ⟨_, _, h, hi, _⟩ := h
 exact Kid_no h k ⟨by decide, by decide⟩ (Fo.ent_not f 0 0 fun h0 => by have := (hi.rng 0 h0).1; omega)
theorem Kid_stop {t : Nat} {f : Fo} {next : Int} {M : Nat → Prop} {w : World} (h : TreeM M t f next w) {x : Int} (hx : x ∈ f.ids) (i : Nat) (hi : Hid (idxW f x = i)) : Calls Tryz.prog 42 #[.pointer (some ⟨t, 0, none⟩), .int .i64 (entW f x).par, .int .i64 (i : Int)] w fun er w' => ∃ y b, er = .returned (.tuple #[.int .i64 y, .bool b]) ∧ (b = true → y = x) ∧ w = w' := by
 have hI := h.inv
 by_cases hp : (entW f x).par = 0
 ·rw [hp]
  exact (Kid_zero h _).mono fun e w' ⟨h1, h2⟩ => ⟨0, false, h1, (fun h => by cases h), h2⟩
 ·have hq : (entW f x).par ∈ f.ids := by
   rcases List.mem_cons.1 (anc_step hI hx).2 with h2 | h2
   ·exact absurd h2 hp
   ·exact h2
  have hk := idx_at hI hx
  rw [hi.out] at hk
  exact (Kid_in h (ent_of hI hq).2 i x hk).mono fun e w' ⟨h1, h2⟩ => ⟨x, true, h1, fun _ => rfl, h2⟩
theorem Kid_on {t : Nat} {f : Fo} {next : Int} {M : Nat → Prop} {w : World} (h : TreeM M t f next w) {x : Int} (hx : x ∈ f.ids) (i q : Nat) (hi : Hid (idxW f x = i)) (hqi : q < i) : Calls Tryz.prog 42 #[.pointer (some ⟨t, 0, none⟩), .int .i64 (entW f x).par, .int .i64 (q : Int)] w fun er w' => ∃ y, er = .returned (.tuple #[.int .i64 y, .bool true]) ∧ y ≠ x ∧ w = w' := by
 have hI := h.inv
 have hp : (entW f x).par ≠ 0 := fun h0 => by have := idx_zero hI hx h0; rw [hi.out] at this; omega
 have hq : (entW f x).par ∈ f.ids := by
  rcases List.mem_cons.1 (anc_step hI hx).2 with h2 | h2
  ·exact absurd h2 hp
  ·exact h2
 have hk := (List.getElem?_eq_some_iff.1 (idx_at hI hx)).1
 rw [hi.out] at hk
 have hy : (kidsW f (entW f x).par)[q]? = some ((kidsW f (entW f x).par)[q]'(by omega)) := List.getElem?_eq_getElem _
 have hne := idx_ahead _ x q _ (by have := hi.out; unfold idxW at this; rw [this]; exact hqi) hy
 exact (Kid_in h (ent_of hI hq).2 q _ hy).mono fun e w' ⟨h1, h2⟩ => ⟨_, h1, hne, h2⟩
def MarkPost (w : World) (f : Fo) (s : StepD) (id : Int) (e : Ending) (w' : World) : Prop :=
 ∃ A c R, e = .returned (.slice A (R : List Int).length c) ∧ intRow w' (.slice A R.length c) R ∧ R.length ≤ 1000 ∧ (∀ y ∈ R, y ∈ f.ids ∧ y ∈ stepW f s id) ∧ Below w.heap.size w w' ∧ ∀ b, (Value.slice A R.length c).ownBlock = some b → w.heap.size ≤ b
end
section
open Go.RowKit Go.Shelf
section
variable {M : Nat → Prop} {t : Nat} {f : Fo} {next : Int}
theorem marked_any (w : World) (h : TreeM M t f next w) (id : Int) (hid : id ∈ f.ids) (x : QSlot) (hx : PredsAt w w.heap.size x.2.1 x.1.preds) (hc : x.1.preds.length ≤ x.2.2) (hs : SmallStep x.1) :
  Calls Tryz.prog 20 #[.pointer (some ⟨t, 0, none⟩), .int .i64 id, .agg (slotC x)] w (MarkPost w f x.1 id) := by
 have HT := Lib.hid h
 have HXP := Lib.hid hx
 have HXC := Lib.hid hc
 have HS := Lib.hid hs
 have HID := Lib.hid hid
 unfold slotC
 clear h hx hc hs hid
 go_enter Tryz.func20, Tryz.ntmps20
 go_wp2_with fail
 obtain ⟨w0, hw0⟩ : ∃ w0, Hid (w.alloc (.cells (slotC x) 45) = w0) := ⟨_, rfl⟩
 have hw0' := hw0.out
 unfold slotC at hw0'
 rw [hw0']
 have hb0 : Below w.heap.size w w0 := by rw [← hw0.out]; exact (Below.refl _ w).alloc (Nat.le_refl _) _
 have HX0 : Hid (w0.heap[w.heap.size]? = some (.cells (slotC x) 45 (0, 0))) := by show _ = _; rw [← hw0.out]; exact heap_alloc_new w _
 have HB0 := Lib.hid hb0
 have HT0 := Lib.hid (HT.out.below hb0)
 clear hb0 hw0'
 go_loopw [1, 7] (fun i s wr => ∃ (cur : Int) (S : List QSlot) (A : Option Addr) (c : Nat), i = .int .i64 cur ∧ s = .slice A S.length c ∧ Hid (cur ∈ 0 :: f.ids) ∧ Hid (Leads f (S.map (·.1)) cur id) ∧ Hid (StepsOwn wr 0 A c S) ∧ Hid (∀ b, (Value.slice A S.length c).ownBlock = some b → w0.heap.size ≤ b) ∧ Hid (MkAll wr S) ∧ Hid (S.length + (ancW f cur).length = (ancW f id).length) ∧ Hid (Below w0.heap.size w0 wr)) (fun i _ _ => (ancW f (intOf i)).length)
 case atStart => exact ⟨id, [], none, 0, rfl, rfl, List.mem_cons_of_mem _ HID.out, leads_nil f id, ⟨by simp, .inl ⟨rfl, rfl⟩⟩, fun b hb => by simp [Value.ownBlock] at hb, fun x hx => by simp at hx, by show _ = _; simp, Below.refl _ _⟩
 case round =>
  obtain ⟨cur, S, A, c, rfl, rfl, hcur, HLD, ho, hfr, hmk, hlen, hbl⟩ := hrel
  obtain ⟨W0, hW0⟩ : ∃ W0, W0 = wr := ⟨_, rfl⟩
  subst hW0
  have HTW := Lib.hid (HT0.out.below hbl.out)
  by_cases hc0 : cur = 0
  ·subst hc0
   have HSL : Hid (S.length ≤ 1001) := by have := hlen.out; have := anc_len f id; have := HT.out.inv.cnt; show _ ≤ _; omega
   have s0 : (0 : Int) ≤ (S.length : Int) := by omega
   have s1 : (S.length : Int) ≤ 1001 := by have := HSL.out; omega
   by_cases h19 : (19 : Int) < S.length
   ·go_wp2_with fail
    go_ret
    exact ⟨none, 0, [], rfl, ⟨by simp, .inl ⟨rfl, rfl⟩⟩, by simp, fun y hy => by simp at hy, HB0.out.trans (hbl.out.mono HB0.out.size), fun b hb => by simp [Value.ownBlock] at hb⟩
   ·have HXW : Hid (W0.heap[w.heap.size]? = some (.cells (slotC x) 45 (0, 0))) := (hbl.out.block _ (Array.getElem?_eq_some_iff.1 HX0.out).1).trans HX0.out
    have x0 := cell_row HXW.out 0 _ rfl
    have x1 := cell_row HXW.out 1 _ rfl
    have x2 := cell_row HXW.out 2 _ rfl
    have x3 := cell_row HXW.out 3 _ rfl
    have hbw := HB0.out.trans (hbl.out.mono HB0.out.size)
    obtain ⟨pa, pc, w8, hr8, hat, hb8⟩ := last_grow ho.out hmk.out (by have := HSL.out; omega) hbl.out.size hfr.out x ((HXP.out.below hbw).more HB0.out.size) HXC.out
    obtain ⟨L, hL⟩ : ∃ L, Hid (S.map (·.1) ++ [x.1] = L) := ⟨_, rfl⟩
    rw [hL.out] at hr8 hat
    have HAT := Lib.hid hat
    have HB8 := Lib.hid (hbl.out.trans hb8)
    unfold slotC at hr8
    clear hat hb8 hbw
    go_wp2_with (at_builtin; refine wpList_append_runI _ rfl _ _ 23 rfl (.slice A S.length c) (.slice (some ⟨W0.heap.size, 0, none⟩) 1 1) (by simp [Act.eval]) (by simp [Act.eval]) hr8 ?_)
    have HSM : Hid (SmallSteps L) := by
     show SmallSteps L
     rw [← hL.out]
     exact ⟨by have := HSL.out; simp; omega, fun y hy => by
      rcases List.mem_append.1 hy with hy | hy
      ·exact hmk.out.small y hy
      ·rw [List.mem_singleton.1 hy]; exact HS.out⟩
    have hev := Eval_any (HT0.out.below HB8.out) L pa pc HAT.out HSM.out
    unfold treeI at hev
    clear hr8 x0 x1 x2 x3
    go_wp2_with fail
    refine hev.mono ?_
    clear hev
    rintro e w9 ⟨A9, c9, rfl, hr9, hb9, hf9⟩
    have HR9 := Lib.hid hr9
    have HB9 := Lib.hid (HB8.out.trans (hb9.mono HB8.out.size))
    have HF9 := Lib.hid hf9
    clear hr9 hb9 hf9
    go_wp2_with fail
    go_ret
    exact ⟨A9, c9, _, rfl, HR9.out, evalW_len HT.out.inv _, fun y hy => leads_end HLD.out (by rw [hL.out]; exact hy), HB0.out.trans (HB9.out.mono HB0.out.size), fun b hb => Nat.le_trans HB0.out.size (Nat.le_trans HB8.out.size (HF9.out b hb))⟩
  ·have hcb : (cur == 0) = false := by simpa using hc0
   have HC : Hid (cur ∈ f.ids) := by
    rcases List.mem_cons.1 hcur.out with h | h
    ·exact absurd h hc0
    ·exact h
   have HE := Lib.hid (ent_of HT.out.inv HC.out).2
   have HAN := Lib.hid (anc_step HT.out.inv HC.out)
   obtain ⟨i, hi⟩ : ∃ i, Hid (idxW f cur = i) := ⟨_, rfl⟩
   have hix := idx_at HT.out.inv HC.out
   have hile := idx_le HT.out.inv HC.out
   rw [hi.out] at hix hile
   have HIX := Lib.hid hix
   have HILE := Lib.hid hile
   clear hix hile hc0
   go_wp2_with fail
   refine (Get_in HTW.out HE.out).mono ?_
   rintro e5 w5 ⟨A5, c5, rfl, _, hb5⟩
   have HT5 := Lib.hid (HTW.out.below hb5)
   have HB5 : Hid (Below w0.heap.size w0 w5) := hbl.out.trans (hb5.mono hbl.out.size)
   have HO5 : Hid (StepsOwn w5 0 A c S) := row_block ho.out fun b hb => hb5.block b (row_lt ho.out hb)
   have HMK5 := Lib.hid (hmk.out.below hb5)
   clear hb5
   obtain ⟨W6, hW6⟩ : ∃ W6, Hid (W6 = w5.alloc (.cells (nodeR cur (entW f cur) (.slice A5 (entW f cur).d.attrs.length c5)) 49)) := ⟨_, rfl⟩
   have hb6 : Below w5.heap.size w5 W6 := by rw [hW6.out]; exact (Below.refl _ w5).alloc (Nat.le_refl _) _
   have hx6 : W6.heap[w5.heap.size]? = some (.cells (nodeR cur (entW f cur) (.slice A5 (entW f cur).d.attrs.length c5)) 49 (0, 0)) := by rw [hW6.out]; exact heap_alloc_new w5 _
   have hz6 : Hid (w5.heap.size < W6.heap.size) := by show _ < _; rw [hW6.out]; simp
   have HT6 := Lib.hid (HT5.out.below hb6)
   have HB6 : Hid (Below w0.heap.size w0 W6) := HB5.out.trans (hb6.mono HB5.out.size)
   have HO6 : Hid (StepsOwn W6 0 A c S) := row_block HO5.out fun b hb => hb6.block b (row_lt HO5.out hb)
   have HSL6 := Lib.hid (HMK5.out.below hb6)
   have f1 : W6.cell? ⟨w5.heap.size, 1, none⟩ = some (.int .i64 (entW f cur).par) := cell_row hx6 1 _ rfl
   have HX6 := Lib.hid hx6
   have hW6' := hW6.out
   unfold nodeR strV at hW6'
   replace hW6 := Lib.hid hW6'
   clear hb6 hx6
   unfold nodeR strV
   go_upto_region 6 with (fail)
   rw [← hW6.out]
   clear hW6'
   go_loopw [10, 24] (fun pl k wr => ∃ q : Nat, pl = .int .i64 ((q : Int) + 1) ∧ k = .int .i64 (q : Int) ∧ q ≤ i ∧ Hid (wr = W6)) (fun _ k _ => 1000 - (intOf k).toNat)
   case atStart => exact ⟨0, by simp, rfl, Nat.zero_le _, rfl⟩
   case round =>
    obtain ⟨q, rfl, rfl, hq, hwr⟩ := hrel
    have hwr' := hwr.out.symm
    subst hwr'
    have q0 : (0 : Int) ≤ (q : Int) := by omega
    have q1 : (q : Int) < 1000 := by have := HILE.out; omega
    by_cases hqi : q < i
    ·go_wp2_with fail
     refine (Kid_on HT6.out HC.out i q hi hqi).mono ?_
     rintro e w' ⟨y, rfl, hne, rfl⟩
     have hyb : (y == cur) = false := by simpa using hne
     go_wp2_with fail
     go_roundw
     case rel => exact ⟨q + 1, by go_num, by go_num, by omega, trivial⟩
     case measure => simp [intOf]; omega
    ·have hqe : q = i := by omega
     subst hqe
     go_wp2_with fail
     refine (Kid_stop HT6.out HC.out q hi).mono ?_
     rintro e w' ⟨y, b, rfl, hby, rfl⟩
     cases b with
     | true =>
      have hyb : (y == cur) = true := by simpa using hby rfl
      clear hby
      obtain ⟨pa, pc, w7, hr7, ho7, hf7, hb7, hsl7⟩ := mark_grow (i := q) HO6.out HSL6.out (by have := hlen.out; have := anc_len f id; have := HT.out.inv.cnt; omega)
      have HO7 := Lib.hid ho7
      have HF7 := Lib.hid hf7
      have HB7 := Lib.hid hb7
      have HSL7 := Lib.hid hsl7
      have f7 : w7.cell? ⟨w5.heap.size, 1, none⟩ = some (.int .i64 (entW f cur).par) := cell_row ((hb7.block _ hz6.out).trans HX6.out) 1 _ rfl
      clear ho7 hf7 hb7 hsl7
      go_wp2_with (at_builtin; refine wpList_append_runI _ rfl _ _ 23 rfl (.slice (some ⟨W6.heap.size + 1, 0, none⟩) 1 1) (.slice A S.length c) (by simp [Act.eval]) (by simp [Act.eval]) hr7 ?_)
      go_wp2_with fail
      go_roundw
      case rel =>
       refine ⟨(entW f cur).par, (mark q, some ⟨W6.heap.size, 0, none⟩, 1) :: S, pa, pc, rfl, rfl, HAN.out.2, ?_, HO7.out, ?_, HSL7.out, ?_, ?_⟩
       ·exact leads_cons HAN.out.2 HIX.out HLD.out
       ·exact fun b hb => Nat.le_trans HB6.out.size (HF7.out b hb)
       ·have h1 := HAN.out.1
        have h2 := hlen.out
        rw [h1] at h2
        show _ = _
        simp only [List.length_cons] at h2 ⊢
        omega
       ·exact HB6.out.trans (HB7.out.mono HB6.out.size)
      case measure =>
       have h1 := HAN.out.1
       show (ancW f (entW f cur).par).length < (ancW f cur).length
       rw [h1]
       simp
     | false =>
      clear hby
      obtain ⟨pa, pc, w7, hr7, ho7, hf7, hb7, hsl7⟩ := mark_grow (i := q) HO6.out HSL6.out (by have := hlen.out; have := anc_len f id; have := HT.out.inv.cnt; omega)
      have HO7 := Lib.hid ho7
      have HF7 := Lib.hid hf7
      have HB7 := Lib.hid hb7
      have HSL7 := Lib.hid hsl7
      have f7 : w7.cell? ⟨w5.heap.size, 1, none⟩ = some (.int .i64 (entW f cur).par) := cell_row ((hb7.block _ hz6.out).trans HX6.out) 1 _ rfl
      clear ho7 hf7 hb7 hsl7
      go_wp2_with (at_builtin; refine wpList_append_runI _ rfl _ _ 23 rfl (.slice (some ⟨W6.heap.size + 1, 0, none⟩) 1 1) (.slice A S.length c) (by simp [Act.eval]) (by simp [Act.eval]) hr7 ?_)
      go_wp2_with fail
      go_roundw
      case rel =>
       refine ⟨(entW f cur).par, (mark q, some ⟨W6.heap.size, 0, none⟩, 1) :: S, pa, pc, rfl, rfl, HAN.out.2, ?_, HO7.out, ?_, HSL7.out, ?_, ?_⟩
       ·exact leads_cons HAN.out.2 HIX.out HLD.out
       ·exact fun b hb => Nat.le_trans HB6.out.size (HF7.out b hb)
       ·have h1 := HAN.out.1
        have h2 := hlen.out
        rw [h1] at h2
        show _ = _
        simp only [List.length_cons] at h2 ⊢
        omega
       ·exact HB6.out.trans (HB7.out.mono HB6.out.size)
      case measure =>
       have h1 := HAN.out.1
       show (ancW f (entW f cur).par).length < (ancW f cur).length
       rw [h1]
       simp
end
end
end Go.Proofs.YtcombcoilpmnkaaGreat
