/-
  Texts of this claim, joined (by a program of the claim's author): Pq9, PathBack, PathLaw.
-/
import Derived.Test.YtpfhdklbhhpbcaaDoorQ1
import Derived.Test.YtpfhdklbhhpbcaaDoorQ5
import Derived.Test.YtpfhdklbhhpbcaaDoorQ4
import Derived.Lib.ItoaNum
/-
  The reader of queries: the walks of axes and step.
-/
namespace Go.Proofs.YtpfhdklbhhpbcaaDoor
open Go.RowKit

def axesC : Array Value := #[.string ⟨(axisT 0).toArray⟩, .string ⟨(axisT 1).toArray⟩, .string ⟨(axisT 2).toArray⟩, .string ⟨(axisT 3).toArray⟩, .string ⟨(axisT 4).toArray⟩, .string ⟨(axisT 5).toArray⟩, .string ⟨(axisT 6).toArray⟩, .string ⟨(axisT 7).toArray⟩, .string ⟨(axisT 8).toArray⟩]
def zeroX : Array Value := #[.string ⟨#[]⟩, .string ⟨#[]⟩, .string ⟨#[]⟩, .string ⟨#[]⟩, .string ⟨#[]⟩, .string ⟨#[]⟩, .string ⟨#[]⟩, .string ⟨#[]⟩, .string ⟨#[]⟩]
theorem axes_get (n : Nat) (h : n < 9) : axesC[n]? = some (.string ⟨(axisT n).toArray⟩) := by
  have : n = 0 ∨ n = 1 ∨ n = 2 ∨ n = 3 ∨ n = 4 ∨ n = 5 ∨ n = 6 ∨ n = 7 ∨ n = 8 := by omega
  rcases this with rfl | rfl | rfl | rfl | rfl | rfl | rfl | rfl | rfl <;> rfl

theorem ax_0 (w : World) : (Instr.index 49 (.agg axesC) (.int .i64 0)).run Tryd.prog w = .ok (.string ⟨(axisT 0).toArray⟩) w := by kernel_rfl
theorem ax_1 (w : World) : (Instr.index 49 (.agg axesC) (.int .i64 1)).run Tryd.prog w = .ok (.string ⟨(axisT 1).toArray⟩) w := by kernel_rfl
theorem ax_2 (w : World) : (Instr.index 49 (.agg axesC) (.int .i64 2)).run Tryd.prog w = .ok (.string ⟨(axisT 2).toArray⟩) w := by kernel_rfl
theorem ax_3 (w : World) : (Instr.index 49 (.agg axesC) (.int .i64 3)).run Tryd.prog w = .ok (.string ⟨(axisT 3).toArray⟩) w := by kernel_rfl
theorem ax_4 (w : World) : (Instr.index 49 (.agg axesC) (.int .i64 4)).run Tryd.prog w = .ok (.string ⟨(axisT 4).toArray⟩) w := by kernel_rfl
theorem ax_5 (w : World) : (Instr.index 49 (.agg axesC) (.int .i64 5)).run Tryd.prog w = .ok (.string ⟨(axisT 5).toArray⟩) w := by kernel_rfl
theorem ax_6 (w : World) : (Instr.index 49 (.agg axesC) (.int .i64 6)).run Tryd.prog w = .ok (.string ⟨(axisT 6).toArray⟩) w := by kernel_rfl
theorem ax_7 (w : World) : (Instr.index 49 (.agg axesC) (.int .i64 7)).run Tryd.prog w = .ok (.string ⟨(axisT 7).toArray⟩) w := by kernel_rfl
theorem ax_8 (w : World) : (Instr.index 49 (.agg axesC) (.int .i64 8)).run Tryd.prog w = .ok (.string ⟨(axisT 8).toArray⟩) w := by kernel_rfl
theorem axes_run (n : Nat) (h : n < 9) (w : World) : (Instr.index 49 (.agg axesC) (.int .i64 (n : Int))).run Tryd.prog w = .ok (.string ⟨(axisT n).toArray⟩) w := by
  match n, h with
  | 0, _ => exact ax_0 w
  | 1, _ => exact ax_1 w
  | 2, _ => exact ax_2 w
  | 3, _ => exact ax_3 w
  | 4, _ => exact ax_4 w
  | 5, _ => exact ax_5 w
  | 6, _ => exact ax_6 w
  | 7, _ => exact ax_7 w
  | 8, _ => exact ax_8 w
  | n + 9, h => omega

set_option maxRecDepth 100000 in
set_option maxHeartbeats 2000000 in
theorem axes_any (w : World) : Calls Tryd.prog 18 #[] w (Ret w (.agg axesC)) := by
  go_enter Tryd.func18, Tryd.ntmps18
  go_wp2_with fail
  try simp only [Exit.inBlock, Exit.then]
  refine bodyPost_ret (results_cell_row Tryd.results18 _ _ w.heap.size 49 axesC (0, 0) _ rfl (heap_alloc_new w _) Tryd.underlying49 rfl (by kernel_rfl)) rfl ?_
  exact ⟨rfl, (Below.refl _ w).alloc (Nat.le_refl _) _⟩

/-- what step leaves -/
def StepDone (w : World) (B b : Nat) (r : QRdr) (g : Nat) (S : List QSlot) (V : Told StepD) (e : Ending) (w' : World) : Prop :=
  Below B w w' ∧ match V with
  | .ok s n => e = .returned (.bool true) ∧ QAt w' b { r with pos := r.pos + n } ∧ ∃ A' c', StepsOwn w' B (some ⟨g, 0, none⟩) r.c (S ++ [(s, A', c')]) ∧ SPreds w' B (S ++ [(s, A', c')])
  | .bad k c => e = .returned (.bool false) ∧ ∃ p : Nat, QAt w' b { r with pos := p, bad := ((r.pos + k : Nat) : Int), code := c }

/-- where a step is written: its cells -/
theorem StepsOwn.cells {w : World} {B b g c o : Nat} {r : QRdr} {S : List QSlot} {x : QSlot} (h : StepsOwn w B (some ⟨g, 0, none⟩) c (S ++ [x])) (hq : QAt w b r) (ho : S.length * 4 = o) :
    b ≠ g ∧ B ≤ g ∧ (w.cell? ⟨g, o, none⟩ = some (.int .i64 x.1.axis) ∧ w.cell? ⟨g, o + 1, none⟩ = some (.int .i64 x.1.test) ∧ w.cell? ⟨g, o + 2, none⟩ = some (.string ⟨x.1.name.toArray⟩) ∧ w.cell? ⟨g, o + 3, none⟩ = some (.slice x.2.1 x.1.preds.length x.2.2)) ∧ ∀ j, w.frozen? ⟨g, j, none⟩ = false := by
  obtain ⟨k1, k2, ⟨cur, k3⟩, k4⟩ := h.last
  rw [ho] at k4
  refine ⟨fun e => ?_, k1, ⟨k4 0 _ rfl, k4 1 _ rfl, k4 2 _ rfl, k4 3 _ rfl⟩, fun j => frozen_of_row w g j _ _ k3⟩
  unfold QAt at hq
  rw [e, k3] at hq
  injection hq with hq
  injection hq with _ hq
  exact absurd hq (by decide)
/-- all that is known between two calls -/
structure StepAt (w0 : World) (B b : Nat) (r : QRdr) (g : Nat) (S : List QSlot) (x : QSlot) (w : World) : Prop where
  q : QAt w b r
  s : StepsOwn w B (some ⟨g, 0, none⟩) r.c (S ++ [x])
  p : SPreds w B (S ++ [x])
  below : Below B w0 w
section
variable {w0 w w' : World} {B b : Nat} {r r' : QRdr} {g : Nat} {S : List QSlot} {x : QSlot}
theorem StepAt.called (h : StepAt w0 B b r g S x w) (hB : B ≤ b) (hBw : B ≤ w0.heap.size) (hc : r'.c = r.c) (h2 : QAt w' b r') (hg : w.grownBy w' (some b)) : StepAt w0 B b r' g S x w' :=
  ⟨h2, by rw [hc]; exact h.s.grown h.q hg, h.p.grown h.q hg, h.below.trans (below_of_grown hg hB (Nat.le_trans hBw h.below.size))⟩
theorem StepAt.quiet (h : StepAt w0 B b r g S x w) (hBw : B ≤ w0.heap.size) (hb : Below w.heap.size w w') : StepAt w0 B b r g S x w' :=
  ⟨h.q.below hb, row_keep h.s hb, fun y hy => row_keep (h.p y hy) hb, h.below.trans (hb.mono (Nat.le_trans hBw h.below.size))⟩
theorem StepAt.write (h : StepAt w0 B b r g S x w) (y : QSlot) (j : Nat) (u : Value) (hj : j < 4) (hy : cellsS y = (cellsS x).set j u) (h1 : y.1.preds = x.1.preds) (h2 : y.2 = x.2) (o : Nat) (ho : S.length * 4 = o) : StepAt w0 B b r g S y (w.setCell ⟨g, o + j, none⟩ u) := by
  obtain ⟨hne, hBg, _, _⟩ := h.s.cells h.q ho
  have hg := Lib.grownBy_setCell w g (o + j) u
  have h3 := h.s.set (y := y) j u hj hy
  rw [ho] at h3
  exact ⟨h.q.other hg hne, h3, (h.p.stored h.s hg).same h1 h2, h.below.setCell hBg _⟩
end

/-- all that is known between two calls while predicates are read: since world w7 only two blocks were written, and new ones -/
structure LoopAt (w7 : World) (B b : Nat) (r : QRdr) (g : Nat) (S : List QSlot) (x : QSlot) (w : World) : Prop where
  q : QAt w b r
  s : StepsOwn w B (some ⟨g, 0, none⟩) r.c (S ++ [x])
  p : PredsOwn w w7.heap.size x.2.1 x.2.2 x.1.preds
  below : Below B w7 w
  same : ∀ k, k < w7.heap.size → k ≠ b → k ≠ g → w.heap[k]? = w7.heap[k]?
section
variable {w7 w w' : World} {B b : Nat} {r r' : QRdr} {g : Nat} {S : List QSlot} {x : QSlot}
theorem LoopAt.called (h : LoopAt w7 B b r g S x w) (hB : B ≤ b) (hBw : B ≤ w7.heap.size) (hc : r'.c = r.c) (h2 : QAt w' b r') (hg : w.grownBy w' (some b)) : LoopAt w7 B b r' g S x w' :=
  ⟨h2, by rw [hc]; exact h.s.grown h.q hg, World.ownsRow.kept h.p hg (row_apart h.q h.p (by decide)), h.below.trans (below_of_grown hg hB (Nat.le_trans hBw h.below.size)),
    fun k hk h1 h2 => (hg.block k (Nat.lt_of_lt_of_le hk h.below.size) (by intro e; injection e with e; exact h1 e)).trans (h.same k hk h1 h2)⟩
theorem LoopAt.called' (h : LoopAt w7 B b r g S x w) (hB : B ≤ b) (hBw : B ≤ w7.heap.size) (h2 : QAt w' b r') (hc : r'.c = r.c) (hg : w.grownBy w' (some b)) : LoopAt w7 B b r' g S x w' := h.called hB hBw hc h2 hg
theorem LoopAt.quiet (h : LoopAt w7 B b r g S x w) (hBw : B ≤ w7.heap.size) (hb : Below w.heap.size w w') : LoopAt w7 B b r g S x w' :=
  ⟨h.q.below hb, row_keep h.s hb, row_keep h.p hb, h.below.trans (hb.mono (Nat.le_trans hBw h.below.size)), fun k hk h1 h2 => (hb.block k (Nat.lt_of_lt_of_le hk h.below.size)).trans (h.same k hk h1 h2)⟩
theorem row_same {e : TypeId} {size : Nat} {v : Value} {n : Nat} {xs : List Value} (h : w.ownsRow B e size v n xs) (hk : ∀ k, v.ownBlock = some k → w'.heap[k]? = w.heap[k]?) : w'.ownsRow B e size v n xs := by
  refine ⟨h.1, ?_⟩
  rcases h.2 with h | ⟨g, cap, cur, h1, h2, h3, h4⟩
  · exact .inl h
  · exact .inr ⟨g, cap, cur, h1, h2, by rw [hk g (by rw [h1]; rfl)]; exact h3, h4⟩
theorem row_base {B' : Nat} {e : TypeId} {size : Nat} {v : Value} {n : Nat} {xs : List Value} (h : w.ownsRow B e size v n xs) (hB : B' ≤ B) : w.ownsRow B' e size v n xs := by
  refine ⟨h.1, ?_⟩
  rcases h.2 with h | ⟨g, cap, cur, h1, h2, h3⟩
  · exact .inl h
  · exact .inr ⟨g, cap, cur, h1, Nat.le_trans hB h2, h3⟩
theorem LoopAt.fin (h : LoopAt w7 B b r g S x w) (hBw : B ≤ w7.heap.size) {r7 : QRdr} {x7 : QSlot} {c7 : Nat} (hq : QAt w7 b r7) (hs : StepsOwn w7 B (some ⟨g, 0, none⟩) c7 (S ++ [x7])) (hp : SPreds w7 B (S ++ [x7])) : SPreds w B (S ++ [x]) := by
  intro y hy
  rcases List.mem_append.1 hy with hy | hy
  · have h1 := hp y (by simp [hy])
    refine row_same h1 fun k hk => ?_
    obtain ⟨_, hlt, cur, hc⟩ := own_type h1 k hk
    obtain ⟨_, _, ⟨cur', hc'⟩, _⟩ := hs.last
    refine h.same k hlt (fun e => ?_) (fun e => ?_)
    · subst e
      unfold QAt at hq
      rw [hc] at hq
      injection hq with hq
      injection hq with _ hq
      exact absurd hq (by decide)
    · subst e
      rw [hc] at hc'
      injection hc' with hc'
      injection hc' with _ hc'
      exact absurd hc' (by decide)
  · simp at hy; subst hy
    exact row_base h.p hBw
end

/-- a predicate in a block of its own -/
def BoxP (w : World) (g : Nat) (z : PredD) : Prop := w.cell? ⟨g, 0, none⟩ = some (.int .i64 z.kind) ∧ w.cell? ⟨g, 1, none⟩ = some (.int .i64 z.num) ∧ w.cell? ⟨g, 2, none⟩ = some (.string ⟨z.name.toArray⟩) ∧ w.cell? ⟨g, 3, none⟩ = some (.string ⟨z.value.toArray⟩)
theorem BoxP.keep {w w' : World} {g : Nat} {z : PredD} (h : BoxP w g z) (hk : ∀ j, w'.cell? ⟨g, j, none⟩ = w.cell? ⟨g, j, none⟩) : BoxP w' g z := by
  obtain ⟨h0, h1, h2, h3⟩ := h
  exact ⟨(hk 0).trans h0, (hk 1).trans h1, (hk 2).trans h2, (hk 3).trans h3⟩

def predsTold (k : Nat) (ax : Int) (t : Int × List UInt8) : Told (List PredD) → Told StepD
  | .bad j e => .bad (k + j) e
  | .ok ps m => .ok ⟨ax, t.1, t.2, ps⟩ (k + m)




set_option maxRecDepth 100000 in
set_option maxHeartbeats 16000000 in
theorem step_any (b B : Nat) (r : QRdr) (w : World) (h : QAt w b r) (hB : B ≤ b) (hBw : B ≤ w.heap.size) (hp : r.pos ≤ r.s.size) (hs : r.s.size ≤ 1000000000) (g : Nat) (S : List QSlot) (hS : Hid (StepsOwn w B (some ⟨g, 0, none⟩) r.c (S ++ [(⟨0, 0, [], []⟩, none, 0)]))) (hP : Hid (SPreds w B (S ++ [(⟨0, 0, [], []⟩, none, 0)])))
    (o : Nat) (ho : Hid (S.length * 4 = o)) (V : Told StepD) (hV : Hid (qstep (r.s.data.toList.drop r.pos) = V)) :
    Calls Tryd.prog 44 #[.pointer (some ⟨b, 0, none⟩), .pointer (some ⟨g, o, none⟩)] w (StepDone w B b r g S V) := by
  have HL := Lib.hid (size_toList r.s)
  have HQ : Hid (StepAt w B b r g S (⟨0, 0, [], []⟩, none, 0) w) := ⟨h, hS.out, hP.out, Below.refl _ _⟩
  have hVV := hV.out
  unfold qstep at hVV
  clear hV h hS hP
  go_enter Tryd.func44, Tryd.ntmps44
  go_wp2_with fail
  cases hq : pre [46, 46] (r.s.data.toList.drop r.pos) with
  | true =>
    have HB : Hid (pre [46, 46] (r.s.data.toList.drop r.pos) = true) := hq
    rw [if_pos hq] at hVV
    have HV : Hid (V = .ok ⟨4, 4, [], []⟩ 2) := hVV.symm
    clear hq hVV
    refine (is_any b r w HQ.out.q [46, 46] hp hs true HB (by decide)).mono ?_
    rintro e w2 ⟨rfl, h2, hg2⟩
    have HQ2 : Hid (StepAt w B b { r with pos := r.pos + 2 } g S (⟨0, 0, [], []⟩, none, 0) w2) := HQ.out.called hB hBw rfl h2 hg2
    obtain ⟨hne, hBg, ⟨c0, c1, c2, c3⟩, fz⟩ := HQ2.out.s.cells HQ2.out.q ho.out
    have f0 := fz o
    have f1 := fz (o + 1)
    clear h2 c2 c3 fz
    go_wp2_with fail
    go_ret
    rw [HV.out]
    have h3 := (HQ2.out.write (⟨4, 0, [], []⟩, none, 0) 0 (.int .i64 4) (by decide) rfl rfl rfl o ho.out).write (⟨4, 4, [], []⟩, none, 0) 1 (.int .i64 4) (by decide) rfl rfl rfl o ho.out
    exact ⟨h3.below, rfl, h3.q, none, 0, h3.s, h3.p⟩
  | false =>
    have HB : Hid (pre [46, 46] (r.s.data.toList.drop r.pos) = false) := hq
    rw [if_neg (by rw [hq]; decide)] at hVV
    clear hq
    refine (is_any b r w HQ.out.q [46, 46] hp hs false HB (by decide)).mono ?_
    rintro e w2 ⟨rfl, h2, hg2⟩
    have HQ2 : Hid (StepAt w B b r g S (⟨0, 0, [], []⟩, none, 0) w2) := HQ.out.called hB hBw rfl h2 hg2
    clear h2
    go_wp2_with fail
    cases hq : pre [46] (r.s.data.toList.drop r.pos) with
    | true =>
      have HB : Hid (pre [46] (r.s.data.toList.drop r.pos) = true) := hq
      rw [if_pos hq] at hVV
      have HV : Hid (V = .ok ⟨8, 4, [], []⟩ 1) := hVV.symm
      clear hq hVV
      refine (is_any b r w2 HQ2.out.q [46] hp hs true HB (by decide)).mono ?_
      rintro e w3 ⟨rfl, h3, hg3⟩
      have HQ3 : Hid (StepAt w B b { r with pos := r.pos + 1 } g S (⟨0, 0, [], []⟩, none, 0) w3) := HQ2.out.called hB hBw rfl h3 hg3
      obtain ⟨hne, hBg, ⟨c0, c1, c2, c3⟩, fz⟩ := HQ3.out.s.cells HQ3.out.q ho.out
      have f0 := fz o
      have f1 := fz (o + 1)
      clear h3 c2 c3 fz
      go_wp2_with fail
      go_ret
      rw [HV.out]
      have h3 := (HQ3.out.write (⟨8, 0, [], []⟩, none, 0) 0 (.int .i64 8) (by decide) rfl rfl rfl o ho.out).write (⟨8, 4, [], []⟩, none, 0) 1 (.int .i64 4) (by decide) rfl rfl rfl o ho.out
      exact ⟨h3.below, rfl, h3.q, none, 0, h3.s, h3.p⟩
    | false =>
      have HB : Hid (pre [46] (r.s.data.toList.drop r.pos) = false) := hq
      rw [if_neg (by rw [hq]; decide)] at hVV
      clear hq
      refine (is_any b r w2 HQ2.out.q [46] hp hs false HB (by decide)).mono ?_
      rintro e w3 ⟨rfl, h3, hg3⟩
      have HQ3 : Hid (StepAt w B b r g S (⟨0, 0, [], []⟩, none, 0) w3) := HQ2.out.called hB hBw rfl h3 hg3
      obtain ⟨hne, hBg, ⟨c0, c1, c2, c3⟩, fz⟩ := HQ3.out.s.cells HQ3.out.q ho.out
      have f0 := fz o
      obtain ⟨W4, hW4⟩ : ∃ W4, Hid (W4 = w3.setCell ⟨g, o, none⟩ (.int .i64 1)) := ⟨_, rfl⟩
      have HQ4 : Hid (StepAt w B b r g S (⟨1, 0, [], []⟩, none, 0) W4) := by
        show StepAt _ _ _ _ _ _ _ _
        rw [hW4.out]
        exact HQ3.out.write (⟨1, 0, [], []⟩, none, 0) 0 (.int .i64 1) (by decide) rfl rfl rfl o ho.out
      obtain ⟨X, hX⟩ : ∃ X, Hid (axisN (r.s.data.toList.drop r.pos) = X) := ⟨_, rfl⟩
      simp only [hX.out, List.drop_drop] at hVV
      clear h3 c1 c2 c3 fz
      go_wp2_with fail
      rw [← hW4.out]
      refine (axes_any W4).mono ?_
      rintro e w5 ⟨rfl, hb5⟩
      have HQ5 : Hid (StepAt w B b r g S (⟨1, 0, [], []⟩, none, 0) w5) := HQ4.out.quiet hBw hb5
      have HVV := Lib.hid hVV
      clear hVV c0 f0 hne hBg
      go_wp2_with fail
      go_loopw [32] (fun i wr => ∃ (n : Nat), n ≤ 9 ∧ i = .int .i64 (n : Int) ∧ Hid (StepAt w B b r g S (⟨1, 0, [], []⟩, none, 0) wr) ∧ Hid (if n = 0 then axisF 8 1 (r.s.data.toList.drop r.pos) = X else axisF (9 - n) n (r.s.data.toList.drop r.pos) = X)) (fun i _ => 9 - (intOf i).toNat)
      case atStart => exact ⟨0, by decide, by go_num, HQ5.out, by show _; rw [if_pos rfl]; exact hX.out⟩
      case round =>
        obtain ⟨n, hn9, rfl, HQr, hin⟩ := hrel
        by_cases hlt : n < 9
        · have k0 : (n : Int) < 9 := by omega
          have k1 : (0 : Int) ≤ (n : Int) := by omega
          by_cases hn0 : n = 0
          · subst hn0
            have hin' := hin.out
            rw [if_pos rfl] at hin'
            have HIN := Lib.hid hin'
            clear hin hin'
            go_wp2_with fail
            rw [ax_0 wr]
            go_simp
            go_wp2_with fail
            go_roundw
            case rel => exact ⟨1, by decide, by go_num, HQr, by show _; rw [if_neg (by decide)]; exact HIN.out⟩
            case measure => simp [intOf]
          · have k2 : (0 : Int) < (n : Int) := by omega
            obtain ⟨f, hf⟩ : ∃ f, 9 - n = f + 1 := ⟨8 - n, by omega⟩
            have hin' := hin.out
            rw [if_neg hn0, hf, axisF] at hin'
            have hlen : (axisT n).length ≤ 1000 := by
              have : n = 1 ∨ n = 2 ∨ n = 3 ∨ n = 4 ∨ n = 5 ∨ n = 6 ∨ n = 7 ∨ n = 8 := by omega
              rcases this with rfl | rfl | rfl | rfl | rfl | rfl | rfl | rfl <;> decide
            cases hm : pre (axisT n) (r.s.data.toList.drop r.pos) with
            | true =>
              have HM : Hid (pre (axisT n) (r.s.data.toList.drop r.pos) = true) := hm
              rw [if_pos hm] at hin'
              obtain ⟨k, hk⟩ : ∃ k, Hid ((axisT n).length = k) := ⟨_, rfl⟩
              have hkl : r.pos + k ≤ r.s.size := by have := pre_at (k := r.pos) (by rw [HL.out]; exact hp) hm; rw [HL.out, hk.out] at this; exact this
              obtain ⟨ax, hax⟩ : ∃ ax, Hid ((n : Int) = ax) := ⟨_, rfl⟩
              have hVV2 := HVV.out
              simp only [← hin', hk.out, if_neg hn0, hax.out] at hVV2
              have HVV := Lib.hid hVV2
              clear hin hin' hm hVV2
              go_wp2_with fail
              rw [axes_run n hlt wr]
              go_simp
              go_wp2_with fail
              refine (is_any b r wr HQr.out.q (axisT n) hp hs true HM hlen).mono ?_
              rintro e w6 ⟨rfl, h6, hg6⟩
              have HQ6 : Hid (StepAt w B b { r with pos := r.pos + k } g S (⟨1, 0, [], []⟩, none, 0) w6) := by
                have := HQr.out.called hB hBw (r' := { r with pos := r.pos + (axisT n).length }) rfl h6 hg6
                rw [hk.out] at this; exact this
              obtain ⟨_, _, ⟨c0, _, _, _⟩, fz⟩ := HQ6.out.s.cells HQ6.out.q ho.out
              have f0 := fz o
              obtain ⟨W6, hW6⟩ : ∃ W6, Hid (W6 = w6.setCell ⟨g, o, none⟩ (.int .i64 n)) := ⟨_, rfl⟩
              have HQ5 : Hid (StepAt w B b { r with pos := r.pos + k } g S (⟨ax, 0, [], []⟩, none, 0) W6) := by
                show StepAt _ _ _ _ _ _ _ _
                rw [hW6.out, ← hax.out]
                exact HQ6.out.write (⟨n, 0, [], []⟩, none, 0) 0 (.int .i64 n) (by decide) rfl rfl rfl o ho.out
              clear h6 fz
              go_wp2_with fail
              rw [← hW6.out]
              clear c0 f0
              obtain ⟨U, hU⟩ : ∃ U, Hid (qtest (r.s.data.toList.drop (r.pos + k)) = U) := ⟨_, rfl⟩
              have hVV := HVV.out
              rw [hU.out] at hVV
              go_wp2_with fail
              refine (test_any b B { r with pos := r.pos + k } W6 HQ5.out.q hB (Nat.le_trans hBw HQ5.out.below.size) hkl hs g S (⟨ax, 0, [], []⟩, none, 0) HQ5.out.s HQ5.out.p rfl o ho U hU).mono ?_
              cases U with
              | bad j c =>
                have HV : Hid (V = .bad (k + j) c) := hVV.symm
                clear hVV
                rintro e w7 ⟨hb7, rfl, p, h7⟩
                go_wp2_with fail
                go_ret
                rw [HV.out]
                refine ⟨HQ5.out.below.trans hb7, rfl, p, ?_⟩
                rw [show r.pos + (k + j) = r.pos + k + j by omega]
                exact h7
              | ok t n =>
                rintro e w7 ⟨hb7, rfl, h7, hs7, hp7⟩
                have hw := qtest_within (r.s.data.toList.drop (r.pos + k))
                rw [hU.out, List.length_drop, HL.out] at hw
                obtain ⟨wlo, whi⟩ := hw
                obtain ⟨q, hq⟩ : ∃ q, Hid (r.pos + k + n = q) := ⟨_, rfl⟩
                have hql : q ≤ r.s.size := by have := hq.out; omega
                have HB7 : Hid (Below B w w7) := HQ5.out.below.trans hb7
                have HQ7 : Hid (QAt w7 b { r with pos := q }) := by show QAt _ _ _; rw [← hq.out]; exact h7
                have HS7 : Hid (StepsOwn w7 B (some ⟨g, 0, none⟩) r.c (S ++ [(⟨ax, t.1, t.2, []⟩, none, 0)])) := hs7
                have HP7 : Hid (SPreds w7 B (S ++ [(⟨ax, t.1, t.2, []⟩, none, 0)])) := hp7
                have hBw7 : B ≤ w7.heap.size := Nat.le_trans hBw HB7.out.size
                have HA7 : Hid (LoopAt w7 B b { r with pos := q } g S (⟨ax, t.1, t.2, []⟩, none, 0) w7) := ⟨HQ7.out, hs7, World.ownsRow_nil _ _ _ _, Below.refl _ _, fun _ _ _ _ => rfl⟩
                obtain ⟨P, hP⟩ : ∃ P, Hid (qpreds (r.s.data.toList.drop q) [] = P) := ⟨_, rfl⟩
                have hVP : predsTold (k + n) ax t P = V := by
                  have := hVV
                  simp only at this
                  rw [show r.pos + (k + n) = q by have := hq.out; omega, hP.out] at this
                  rw [← this]
                  cases P <;> rfl
                have HVP := Lib.hid hVP
                clear hVV hVP h7 hs7 hp7 hU wlo whi hb7
                go_wp2_with fail
                go_loopg [] (r.s.size - q) (fun gm wr => ∃ (p : Nat) (ps : List PredD) (A : Option Addr) (c : Nat), q ≤ p ∧ p ≤ r.s.size ∧ gm = r.s.size - p ∧ ps.length ≤ 5 ∧ Hid (LoopAt w7 B b { r with pos := p } g S (⟨ax, t.1, t.2, ps⟩, A, c) wr) ∧ Hid ((qpreds (r.s.data.toList.drop p) ps).past (p - q) = P))
                case atStart => exact ⟨q, [], none, 0, Nat.le_refl _, hql, rfl, by simp, HA7.out, by show _ = _; rw [Nat.sub_self, Told.past_zero, hP.out]⟩
                case round =>
                  obtain ⟨p, ps, A, c, hqp, hpl, rfl, hps, HA, hin⟩ := hrel
                  rename_i wr0 _
                  obtain ⟨_, z1, _⟩ := HA.out.q.all
                  have hin' := hin.out
                  cases hb : pre [91] (r.s.data.toList.drop p) with
                  | false =>
                    have HB : Hid (pre [91] (r.s.data.toList.drop p) = false) := hb
                    rw [qpreds_none hb] at hin'
                    have HP : Hid (P = .ok ps (p - q)) := by show _ = _; rw [← hin']; rfl
                    clear hin hin' hb
                    go_wp2_with fail
                    refine (is_any b _ _ HA.out.q [91] hpl hs false HB (by decide)).mono ?_
                    rintro e8 w8 ⟨rfl, h8, hg8⟩
                    have HA8 := HA.out.called hB hBw7 rfl h8 hg8
                    clear z1
                    go_wp2_with fail
                    go_ret
                    rw [← HVP.out, HP.out]
                    refine ⟨HB7.out.trans HA8.below, rfl, ?_, A, c, HA8.s, HA8.fin hBw7 HQ7.out HS7.out HP7.out⟩
                    have := HA8.q
                    rw [show r.pos + (k + n + (p - q)) = p by have := hq.out; omega]
                    exact this
                  | true =>
                    have HB : Hid (pre [91] (r.s.data.toList.drop p) = true) := hb
                    have hp1 := pre1_len hb
                    rw [HL.out] at hp1
                    go_wp2_with fail
                    refine (is_any b _ _ HA.out.q [91] hpl hs true HB (by decide)).mono ?_
                    rintro e8 w8 ⟨rfl, h8, hg8⟩
                    have HA8 : Hid (LoopAt w7 B b { r with pos := p + 1 } g S (⟨ax, t.1, t.2, ps⟩, A, c) w8) := HA.out.called hB hBw7 rfl h8 hg8
                    clear h8 z1
                    obtain ⟨hne, hBg, ⟨c0, c1, c2, c3⟩, fz⟩ := HA8.out.s.cells HA8.out.q ho.out
                    by_cases h5 : 5 ≤ ps.length
                    · have HP : Hid (P = .bad (p - q) 70) := by show _ = _; rw [← hin', qpreds_many hb h5]; rfl
                      have h5' : (5 : Int) ≤ ps.length := by omega
                      clear hin hin' hb c0 c1 c2 fz
                      go_wp2_with fail
                      refine (fail_any b _ w8 HA8.out.q p 70).mono ?_
                      rintro e9 w9 ⟨rfl, h9, hg9⟩
                      have HA9 := HA8.out.called' hB hBw7 h9 rfl hg9
                      clear c3
                      go_wp2_with fail
                      go_ret
                      rw [← HVP.out, HP.out]
                      refine ⟨HB7.out.trans HA9.below, rfl, p + 1, ?_⟩
                      have := HA9.q
                      rw [show r.pos + (k + n + (p - q)) = p by have := hq.out; omega]
                      exact this
                    · have h5' : (ps.length : Int) < 5 := by omega
                      obtain ⟨U, hU⟩ : ∃ U, Hid (qpred (r.s.data.toList.drop (p + 1)) = U) := ⟨_, rfl⟩
                      have hU1 : qpred ((r.s.data.toList.drop p).drop 1) = U := by rw [List.drop_drop]; exact hU.out
                      have hw := qpred_within (r.s.data.toList.drop (p + 1))
                      rw [hU.out, List.length_drop, HL.out] at hw
                      clear c0 c1 c2 fz
                      go_wp2_with fail
                      refine (pred_any b _ w8 HA8.out.q hp1 hs U hU).mono ?_
                      cases U with
                      | bad j d =>
                        have HP : Hid (P = .bad (p - q + (1 + j)) d) := by show _ = _; rw [← hin', qpreds_bad hb h5 hU1]; rfl
                        rintro e9 w9 ⟨⟨v, rfl, ⟨z, rfl⟩, p9, h9⟩, hg9⟩
                        have HA9 := HA8.out.called' hB hBw7 h9 rfl hg9
                        have HA10 := HA9.quiet hBw7 ((Below.refl _ w9).alloc (Nat.le_refl _) (.cells #[.int .i64 z.kind, .int .i64 z.num, .string ⟨z.name.toArray⟩, .string ⟨z.value.toArray⟩] 39))
                        clear hin hin' hb hw hU1 c3
                        unfold predC
                        go_wp2_with fail
                        go_ret
                        rw [← HVP.out, HP.out]
                        refine ⟨HB7.out.trans HA10.below, rfl, p9, ?_⟩
                        have := HA10.q
                        rw [show r.pos + (k + n + (p - q + (1 + j))) = p + 1 + j by have := hq.out; omega]
                        exact this
                      | ok z m =>
                        obtain ⟨wlo, whi⟩ := hw
                        rintro e9 w9 ⟨⟨rfl, h9⟩, hg9⟩
                        have HA9 : Hid (LoopAt w7 B b { r with pos := p + 1 + m } g S (⟨ax, t.1, t.2, ps⟩, A, c) w9) := HA8.out.called hB hBw7 rfl h9 hg9
                        obtain ⟨W10, hW10⟩ : ∃ W10, Hid (W10 = w9.alloc (.cells #[.int .i64 z.kind, .int .i64 z.num, .string ⟨z.name.toArray⟩, .string ⟨z.value.toArray⟩] 39)) := ⟨_, rfl⟩
                        have HA10 : Hid (LoopAt w7 B b { r with pos := p + 1 + m } g S (⟨ax, t.1, t.2, ps⟩, A, c) W10) := by
                          show LoopAt _ _ _ _ _ _ _ _
                          rw [hW10.out]; exact HA9.out.quiet hBw7 ((Below.refl _ w9).alloc (Nat.le_refl _) _)
                        have y : ∀ (j : Nat) (u : Value), (#[.int .i64 z.kind, .int .i64 z.num, .string ⟨z.name.toArray⟩, .string ⟨z.value.toArray⟩] : Array Value)[j]? = some u → W10.cell? ⟨w9.heap.size, j, none⟩ = some u := fun j u hu => by rw [hW10.out, World.cell?_alloc_at _ _ _ _ rfl]; exact hu
                        have HX10 : Hid (BoxP W10 w9.heap.size z) := ⟨y 0 _ rfl, y 1 _ rfl, y 2 _ rfl, y 3 _ rfl⟩
                        have hbx : w9.heap.size ≠ b := by have := HA9.out.q.lt; omega
                        have hgx : w9.heap.size ≠ g := by have := HA9.out.s.last.2.1; omega
                        have hzx : w9.heap.size < W10.heap.size := by rw [hW10.out]; simp
                        clear y c3
                        have hpm : p + 1 + m ≤ r.s.size := by omega
                        have hd2 : (r.s.data.toList.drop p).drop (1 + m) = r.s.data.toList.drop (p + 1 + m) := by rw [List.drop_drop, show p + (1 + m) = p + 1 + m by omega]
                        unfold predC
                        go_wp2_with fail
                        rw [← hW10.out]
                        cases hc : pre [93] (r.s.data.toList.drop (p + 1 + m)) with
                        | false =>
                          have HC : Hid (pre [93] (r.s.data.toList.drop (p + 1 + m)) = false) := hc
                          have HP : Hid (P = .bad (p - q + (1 + m)) 70) := by show _ = _; rw [← hin', qpreds_open hb h5 hU1 (by rw [hd2]; exact hc)]; rfl
                          clear hin hin' hb hU1 hd2 hc
                          refine (must_any b _ W10 HA10.out.q [93] hpm hs false HC (by decide)).mono ?_
                          rintro e11 w11 ⟨rfl, h11, hg11⟩
                          have HA11 := HA10.out.called' hB hBw7 h11 rfl hg11
                          go_wp2_with fail
                          go_ret
                          rw [← HVP.out, HP.out]
                          refine ⟨HB7.out.trans HA11.below, rfl, p + 1 + m, ?_⟩
                          have := HA11.q
                          rw [show r.pos + (k + n + (p - q + (1 + m))) = p + 1 + m by have := hq.out; omega]
                          exact this
                        | true =>
                          have HC : Hid (pre [93] (r.s.data.toList.drop (p + 1 + m)) = true) := hc
                          have hc1 := pre1_len hc
                          rw [HL.out] at hc1
                          have HIN : Hid ((qpreds (r.s.data.toList.drop (p + 1 + m + 1)) (ps ++ [z])).past (p + 1 + m + 1 - q) = P) := by
                            show _ = _
                            rw [← hin', qpreds_step hb h5 hU1 (by rw [hd2]; exact hc), Told.past_past, List.drop_drop, show p + (m + 2) = p + 1 + m + 1 by omega, show p - q + (m + 2) = p + 1 + m + 1 - q by omega]
                          clear hin hin' hb hU1 hd2 hc
                          refine (must_any b _ W10 HA10.out.q [93] hpm hs true HC (by decide)).mono ?_
                          rintro e11 W1 ⟨rfl, h11, hg11⟩
                          have HA11 : Hid (LoopAt w7 B b { r with pos := p + 1 + m + 1 } g S (⟨ax, t.1, t.2, ps⟩, A, c) W1) := HA10.out.called hB hBw7 rfl h11 hg11
                          have HS : Hid (BoxP W1.drew w9.heap.size z) := BoxP.keep (w := W10) HX10.out (fun j => by
                            unfold World.cell?
                            rw [show W1.drew.heap = W1.heap from rfl, hg11.block w9.heap.size hzx (by intro e; injection e with e; exact hbx e)])
                          have hzx1 : w9.heap.size < W1.heap.size := Nat.lt_of_lt_of_le hzx hg11.size
                          obtain ⟨_, _, ⟨_, _, _, z3⟩, fz3⟩ := HA11.out.s.cells HA11.out.q ho.out
                          have hf3 := fz3 (o + 3)
                          have H2 : Hid (W1.ownsRow w7.heap.size 39 4 (.slice A ps.length c) ps.length (ps.flatMap cellsP)) := HA11.out.p
                          have hzB : w7.heap.size ≤ W1.drew.heap.size := by
                            have h1 := HA11.out.below.size
                            exact h1
                          have hown2 : ∀ k, (Value.slice A ps.length c).ownBlock = some k → k = w9.heap.size → False := fun k hk e => by
                            have h1 := (own_type HA9.out.p k hk).2.1
                            omega
                          have HOWN2 := Lib.hid hown2
                          clear h11
                          go_wp2_with fail
                          refine wp_region_held_drew (S := fun w' => w'.cell? ⟨w9.heap.size, 0, none⟩ = some (.int .i64 z.kind) ∧ w'.cell? ⟨w9.heap.size, 1, none⟩ = some (.int .i64 z.num) ∧ w'.cell? ⟨w9.heap.size, 2, none⟩ = some (.string ⟨z.name.toArray⟩) ∧ w'.cell? ⟨w9.heap.size, 3, none⟩ = some (.string ⟨z.value.toArray⟩)) (by kernel_rfl) HS.out (fun hHeld => ?_)
                          refine tks (oi := ⟨_, _, _, _, _, _⟩) (v := ?_) 0 rfl (.inl ⟨by rfl, ?_⟩) ?_; rotate_left
                          · (intro wS hSw; (try dsimp only at hSw); go_simp); all_goals with_reducible rfl
                          try go_frame
                          refine tks (oi := ⟨_, _, _, _, _, _⟩) (v := ?_) 1 rfl (.inl ⟨by rfl, ?_⟩) ?_; rotate_left
                          · (intro wS hSw; (try dsimp only at hSw); go_simp); all_goals with_reducible rfl
                          try go_frame
                          refine tks (oi := ⟨_, _, _, _, _, _⟩) (v := ?_) 2 rfl (.inl ⟨by rfl, ?_⟩) ?_; rotate_left
                          · (intro wS hSw; (try dsimp only at hSw); go_simp); all_goals with_reducible rfl
                          try go_frame
                          refine tks (oi := ⟨_, _, _, _, _, _⟩) (v := ?_) 3 rfl (.inl ⟨by rfl, ?_⟩) ?_; rotate_left
                          · (intro wS hSw; (try dsimp only at hSw); go_simp); all_goals with_reducible rfl
                          try go_frame
                          refine tks (oi := ⟨_, _, _, _, _, _⟩) (v := ?_) 5 rfl (.inl ⟨by rfl, ?_⟩) ?_; rotate_left
                          · (intro wS hSw; (try dsimp only at hSw); go_simp); all_goals with_reducible rfl
                          try go_frame
                          have z0e : W1.drew.cell? ⟨g, o + 3, none⟩ = some (.slice A ps.length c) := z3
                          have HS2 : Hid (BoxP (W1.drew.alloc (.cells #[.int .i64 z.kind, .int .i64 z.num, .string ⟨z.name.toArray⟩, .string ⟨z.value.toArray⟩] 39)) w9.heap.size z) := BoxP.keep HS.out (fun j => World.cell?_alloc_lt _ _ _ hzx1)
                          have hgd : g < W1.heap.size := HA11.out.s.last.2.1
                          have z0f : (W1.drew.alloc (.cells #[.int .i64 z.kind, .int .i64 z.num, .string ⟨z.name.toArray⟩, .string ⟨z.value.toArray⟩] 39)).cell? ⟨g, o + 3, none⟩ = some (.slice A ps.length c) := (World.cell?_alloc_lt _ _ _ hgd).trans z0e
                          refine wpAnyH_ready (rs := [4, 6]) (by kernel_rfl) (by simp) ?_
                          refine AllReadyH.cons (o := ⟨_, _, _, _, _, _⟩) rfl (fun K hK => ?_) (AllReadyH.cons (o := ⟨_, _, _, _, _, _⟩) rfl (fun K hK => ?_) AllReadyH.nil)
                          · go_simp
                            refine hK.out _ _ (HS.out) (fun hHeld => ?_)
                            clear hK K
                            try go_frame
                            refine wpAnyH_ready (rs := [6]) (by kernel_rfl) (by simp) ?_
                            refine AllReadyH.cons (o := ⟨_, _, _, _, _, _⟩) rfl (fun K hK => ?_) AllReadyH.nil
                            go_simp
                            refine hK.out _ _ (HS2.out) (fun hHeld => ?_)
                            clear hK K
                            try go_frame
                            refine wpAnyH_ready (rs := [7]) (by kernel_rfl) (by simp) ?_
                            refine AllReadyH.cons (o := ⟨_, _, _, _, _, _⟩) rfl (fun K hK => ?_) AllReadyH.nil
                            refine appendSw (.tmp 84) (.tmp 86) 35 rfl w7.heap.size 39 (.agg #[.int .i64 0, .int .i64 0, .string ByteArray.empty, .string ByteArray.empty]) 4 48 Tryd.underlying35 infoPred rfl (by decide) _ ps.length _ (cellsP z) rfl H2.out hzB _ rfl rfl (cellsP_length _) (cellsP_one _) (by omega) (by decide) ?_
                            intro a4 c4 w4 hown4 hb4 hz4 hg4
                            have HD : Hid (LoopAt w7 B b { r with pos := p + 1 + m + 1 } g S (⟨ax, t.1, t.2, ps⟩, A, c) (W1.drew.alloc (.cells #[.int .i64 z.kind, .int .i64 z.num, .string ⟨z.name.toArray⟩, .string ⟨z.value.toArray⟩] 39))) :=
                              HA11.out.quiet hBw7 (((Below.refl _ W1).drew).alloc (Nat.le_refl _) _)
                            have hownb : some b ≠ (Value.slice A ps.length c).ownBlock := fun hg => by
                              obtain ⟨_, _, cur, hc⟩ := own_type HD.out.p b hg.symm
                              have h1 := HD.out.q
                              unfold QAt at h1
                              rw [hc] at h1
                              injection h1 with h1
                              injection h1 with _ h1
                              exact absurd h1 (by decide)
                            have hz4' : W1.heap.size < w4.heap.size := hz4
                            have HS4 : Hid (BoxP w4 w9.heap.size z) := BoxP.keep HS2.out (fun j => World.grownBy.cell_far hg4 ⟨w9.heap.size, j, none⟩ (by show w9.heap.size < _; simp; omega) (fun e => HOWN2.out _ e.symm rfl))
                            have HQ4 : Hid (QAt w4 b { r with pos := p + 1 + m + 1 }) := (hg4.block b HD.out.q.lt hownb).trans HD.out.q
                            have HSt4 : Hid (StepsOwn w4 B (some ⟨g, 0, none⟩) r.c (S ++ [(⟨ax, t.1, t.2, ps⟩, A, c)])) := own_grown HD.out.s HD.out.p (by decide) hg4
                            obtain ⟨_, _, ⟨_, _, _, k3⟩, kfz⟩ := HSt4.out.cells HQ4.out ho.out
                            have kf3 := kfz (o + 3)
                            refine hK.out _ _ (HS4.out) (fun hHeld => ?_)
                            clear hK K
                            try go_frame
                            refine tks (oi := ⟨_, _, _, _, _, _⟩) (v := ?_) 8 rfl (.inl ⟨by rfl, ?_⟩) ?_; rotate_left
                            · (intro wS hSw; (try dsimp only at hSw); go_simp); all_goals with_reducible rfl
                            try go_frame
                            refine tks (oi := ⟨_, _, _, _, _, _⟩) (v := ?_) 9 rfl (.inl ⟨by rfl, ?_⟩) ?_; rotate_left
                            · (intro wS hSw; (try dsimp only at hSw); go_simp); all_goals with_reducible rfl
                            try go_frame
                            refine wpAnyH_ready (rs := [10]) (by kernel_rfl) (by simp) ?_
                            refine AllReadyH.cons (o := ⟨_, _, _, _, _, _⟩) rfl (fun K hK => ?_) AllReadyH.nil
                            go_simp
                            have HS5 : Hid (BoxP (w4.setCell ⟨g, o + 3, none⟩ (.slice a4 (ps.length + 1) c4)) w9.heap.size z) := BoxP.keep HS4.out (fun j => World.grownBy.cell_far (Lib.grownBy_setCell w4 g (o + 3) _) ⟨w9.heap.size, j, none⟩ (by show w9.heap.size < _; omega) (fun e => by injection e with e; exact hgx e))
                            refine hK.out _ _ (HS5.out) (fun hHeld => ?_)
                            clear hK K
                            try go_frame
                            refine wpAnyH_done (by kernel_rfl) ?_ _
                            clear hHeld
                            go_wp2_with fail
                            go_roundg (r.s.size - (p + 1 + m + 1))
                            case measure => omega
                            case rel =>
                              have hfin : PredsOwn w4 w7.heap.size a4 c4 (ps ++ [z]) := by
                                unfold PredsOwn
                                rw [List.length_append, List.flatMap_append]
                                simpa using hown4
                              have hgg := Lib.grownBy_setCell w4 g (o + 3) (.slice a4 (ps.length + 1) c4)
                              have hst := HSt4.out.set (y := (⟨ax, t.1, t.2, ps ++ [z]⟩, a4, c4)) 3 (.slice a4 (ps.length + 1) c4) (by decide) (by simp [cellsS])
                              rw [ho.out] at hst
                              refine ⟨p + 1 + m + 1, ps ++ [z], a4, c4, by omega, hc1, rfl, by simp; omega, ⟨HQ4.out.other hgg hne, hst, own_grown hfin HSt4.out (by decide) hgg, ?_, fun k hk h1 h2 => ?_⟩, HIN⟩
                              · exact ((HA11.out.below.drew).trans (hb4.mono hBw7)).setCell hBg _
                              · refine (hgg.block k (Nat.lt_of_lt_of_le hk (by have := HD.out.below.size; have := hg4.size; omega)) (by intro e; injection e with e; exact h2 e)).trans ?_
                                exact ((hb4.block k hk)).trans (HA11.out.same k hk h1 h2)
                          · go_simp
                            refine hK.out _ _ (HS2.out) (fun hHeld => ?_)
                            clear hK K
                            try go_frame
                            refine wpAnyH_ready (rs := [4]) (by kernel_rfl) (by simp) ?_
                            refine AllReadyH.cons (o := ⟨_, _, _, _, _, _⟩) rfl (fun K hK => ?_) AllReadyH.nil
                            go_simp
                            refine hK.out _ _ (HS2.out) (fun hHeld => ?_)
                            clear hK K
                            try go_frame
                            refine wpAnyH_ready (rs := [7]) (by kernel_rfl) (by simp) ?_
                            refine AllReadyH.cons (o := ⟨_, _, _, _, _, _⟩) rfl (fun K hK => ?_) AllReadyH.nil
                            refine appendSw (.tmp 84) (.tmp 86) 35 rfl w7.heap.size 39 (.agg #[.int .i64 0, .int .i64 0, .string ByteArray.empty, .string ByteArray.empty]) 4 48 Tryd.underlying35 infoPred rfl (by decide) _ ps.length _ (cellsP z) rfl H2.out hzB _ rfl rfl (cellsP_length _) (cellsP_one _) (by omega) (by decide) ?_
                            intro a4 c4 w4 hown4 hb4 hz4 hg4
                            have HD : Hid (LoopAt w7 B b { r with pos := p + 1 + m + 1 } g S (⟨ax, t.1, t.2, ps⟩, A, c) (W1.drew.alloc (.cells #[.int .i64 z.kind, .int .i64 z.num, .string ⟨z.name.toArray⟩, .string ⟨z.value.toArray⟩] 39))) :=
                              HA11.out.quiet hBw7 (((Below.refl _ W1).drew).alloc (Nat.le_refl _) _)
                            have hownb : some b ≠ (Value.slice A ps.length c).ownBlock := fun hg => by
                              obtain ⟨_, _, cur, hc⟩ := own_type HD.out.p b hg.symm
                              have h1 := HD.out.q
                              unfold QAt at h1
                              rw [hc] at h1
                              injection h1 with h1
                              injection h1 with _ h1
                              exact absurd h1 (by decide)
                            have hz4' : W1.heap.size < w4.heap.size := hz4
                            have HS4 : Hid (BoxP w4 w9.heap.size z) := BoxP.keep HS2.out (fun j => World.grownBy.cell_far hg4 ⟨w9.heap.size, j, none⟩ (by show w9.heap.size < _; simp; omega) (fun e => HOWN2.out _ e.symm rfl))
                            have HQ4 : Hid (QAt w4 b { r with pos := p + 1 + m + 1 }) := (hg4.block b HD.out.q.lt hownb).trans HD.out.q
                            have HSt4 : Hid (StepsOwn w4 B (some ⟨g, 0, none⟩) r.c (S ++ [(⟨ax, t.1, t.2, ps⟩, A, c)])) := own_grown HD.out.s HD.out.p (by decide) hg4
                            obtain ⟨_, _, ⟨_, _, _, k3⟩, kfz⟩ := HSt4.out.cells HQ4.out ho.out
                            have kf3 := kfz (o + 3)
                            refine hK.out _ _ (HS4.out) (fun hHeld => ?_)
                            clear hK K
                            try go_frame
                            refine tks (oi := ⟨_, _, _, _, _, _⟩) (v := ?_) 8 rfl (.inl ⟨by rfl, ?_⟩) ?_; rotate_left
                            · (intro wS hSw; (try dsimp only at hSw); go_simp); all_goals with_reducible rfl
                            try go_frame
                            refine tks (oi := ⟨_, _, _, _, _, _⟩) (v := ?_) 9 rfl (.inl ⟨by rfl, ?_⟩) ?_; rotate_left
                            · (intro wS hSw; (try dsimp only at hSw); go_simp); all_goals with_reducible rfl
                            try go_frame
                            refine wpAnyH_ready (rs := [10]) (by kernel_rfl) (by simp) ?_
                            refine AllReadyH.cons (o := ⟨_, _, _, _, _, _⟩) rfl (fun K hK => ?_) AllReadyH.nil
                            go_simp
                            have HS5 : Hid (BoxP (w4.setCell ⟨g, o + 3, none⟩ (.slice a4 (ps.length + 1) c4)) w9.heap.size z) := BoxP.keep HS4.out (fun j => World.grownBy.cell_far (Lib.grownBy_setCell w4 g (o + 3) _) ⟨w9.heap.size, j, none⟩ (by show w9.heap.size < _; omega) (fun e => by injection e with e; exact hgx e))
                            refine hK.out _ _ (HS5.out) (fun hHeld => ?_)
                            clear hK K
                            try go_frame
                            refine wpAnyH_done (by kernel_rfl) ?_ _
                            clear hHeld
                            go_wp2_with fail
                            go_roundg (r.s.size - (p + 1 + m + 1))
                            case measure => omega
                            case rel =>
                              have hfin : PredsOwn w4 w7.heap.size a4 c4 (ps ++ [z]) := by
                                unfold PredsOwn
                                rw [List.length_append, List.flatMap_append]
                                simpa using hown4
                              have hgg := Lib.grownBy_setCell w4 g (o + 3) (.slice a4 (ps.length + 1) c4)
                              have hst := HSt4.out.set (y := (⟨ax, t.1, t.2, ps ++ [z]⟩, a4, c4)) 3 (.slice a4 (ps.length + 1) c4) (by decide) (by simp [cellsS])
                              rw [ho.out] at hst
                              refine ⟨p + 1 + m + 1, ps ++ [z], a4, c4, by omega, hc1, rfl, by simp; omega, ⟨HQ4.out.other hgg hne, hst, own_grown hfin HSt4.out (by decide) hgg, ?_, fun k hk h1 h2 => ?_⟩, HIN⟩
                              · exact ((HA11.out.below.drew).trans (hb4.mono hBw7)).setCell hBg _
                              · refine (hgg.block k (Nat.lt_of_lt_of_le hk (by have := HD.out.below.size; have := hg4.size; omega)) (by intro e; injection e with e; exact h2 e)).trans ?_
                                exact ((hb4.block k hk)).trans (HA11.out.same k hk h1 h2)
            | false =>
              have HM : Hid (pre (axisT n) (r.s.data.toList.drop r.pos) = false) := hm
              rw [if_neg (by rw [hm]; decide)] at hin'
              have HIN : Hid (axisF (9 - (n + 1)) (n + 1) (r.s.data.toList.drop r.pos) = X) := by show _ = _; rw [show 9 - (n + 1) = f by omega]; exact hin'
              clear hin hin' hm
              go_wp2_with fail
              rw [axes_run n hlt wr]
              go_simp
              go_wp2_with fail
              refine (is_any b r wr HQr.out.q (axisT n) hp hs false HM hlen).mono ?_
              rintro e w6 ⟨rfl, h6, hg6⟩
              have HQ6 : Hid (StepAt w B b r g S (⟨1, 0, [], []⟩, none, 0) w6) := HQr.out.called hB hBw rfl h6 hg6
              clear h6
              go_wp2_with fail
              go_roundw
              case rel => exact ⟨n + 1, by omega, by go_num, HQ6, by show _; rw [if_neg (by omega)]; exact HIN.out⟩
              case measure => simp [intOf]; omega
        · have hn9' : n = 9 := by omega
          subst hn9'
          have hin' := hin.out
          rw [if_neg (by decide)] at hin'
          have hX0 : X = 0 := hin'.symm
          obtain ⟨k, hk⟩ : ∃ k : Nat, Hid (0 = k) := ⟨_, rfl⟩
          obtain ⟨ax, hax⟩ : ∃ ax : Int, Hid (1 = ax) := ⟨_, rfl⟩
          have hkl : r.pos + k ≤ r.s.size := by rw [← hk.out]; exact hp
          have hVV2 := HVV.out
          rw [hX0] at hVV2
          simp only [show (axisT 0).length = k from hk.out, if_true, hax.out] at hVV2
          have HVV := Lib.hid hVV2
          have HQ5 : Hid (StepAt w B b { r with pos := r.pos + k } g S (⟨ax, 0, [], []⟩, none, 0) wr) := by
            show StepAt _ _ _ _ _ _ _ _
            rw [← hk.out, ← hax.out]; exact HQr.out
          clear hin hin' hVV2 hX0
          go_wp2_with fail
          obtain ⟨U, hU⟩ : ∃ U, Hid (qtest (r.s.data.toList.drop (r.pos + k)) = U) := ⟨_, rfl⟩
          have hVV := HVV.out
          rw [hU.out] at hVV
          go_wp2_with fail
          refine (test_any b B { r with pos := r.pos + k } wr HQ5.out.q hB (Nat.le_trans hBw HQ5.out.below.size) hkl hs g S (⟨ax, 0, [], []⟩, none, 0) HQ5.out.s HQ5.out.p rfl o ho U hU).mono ?_
          cases U with
          | bad j c =>
            have HV : Hid (V = .bad (k + j) c) := hVV.symm
            clear hVV
            rintro e w7 ⟨hb7, rfl, p, h7⟩
            go_wp2_with fail
            go_ret
            rw [HV.out]
            refine ⟨HQ5.out.below.trans hb7, rfl, p, ?_⟩
            rw [show r.pos + (k + j) = r.pos + k + j by omega]
            exact h7
          | ok t n =>
            rintro e w7 ⟨hb7, rfl, h7, hs7, hp7⟩
            have hw := qtest_within (r.s.data.toList.drop (r.pos + k))
            rw [hU.out, List.length_drop, HL.out] at hw
            obtain ⟨wlo, whi⟩ := hw
            obtain ⟨q, hq⟩ : ∃ q, Hid (r.pos + k + n = q) := ⟨_, rfl⟩
            have hql : q ≤ r.s.size := by have := hq.out; omega
            have HB7 : Hid (Below B w w7) := HQ5.out.below.trans hb7
            have HQ7 : Hid (QAt w7 b { r with pos := q }) := by show QAt _ _ _; rw [← hq.out]; exact h7
            have HS7 : Hid (StepsOwn w7 B (some ⟨g, 0, none⟩) r.c (S ++ [(⟨ax, t.1, t.2, []⟩, none, 0)])) := hs7
            have HP7 : Hid (SPreds w7 B (S ++ [(⟨ax, t.1, t.2, []⟩, none, 0)])) := hp7
            have hBw7 : B ≤ w7.heap.size := Nat.le_trans hBw HB7.out.size
            have HA7 : Hid (LoopAt w7 B b { r with pos := q } g S (⟨ax, t.1, t.2, []⟩, none, 0) w7) := ⟨HQ7.out, hs7, World.ownsRow_nil _ _ _ _, Below.refl _ _, fun _ _ _ _ => rfl⟩
            obtain ⟨P, hP⟩ : ∃ P, Hid (qpreds (r.s.data.toList.drop q) [] = P) := ⟨_, rfl⟩
            have hVP : predsTold (k + n) ax t P = V := by
              have := hVV
              simp only at this
              rw [show r.pos + (k + n) = q by have := hq.out; omega, hP.out] at this
              rw [← this]
              cases P <;> rfl
            have HVP := Lib.hid hVP
            clear hVV hVP h7 hs7 hp7 hU wlo whi hb7
            go_wp2_with fail
            go_loopg [] (r.s.size - q) (fun gm wr => ∃ (p : Nat) (ps : List PredD) (A : Option Addr) (c : Nat), q ≤ p ∧ p ≤ r.s.size ∧ gm = r.s.size - p ∧ ps.length ≤ 5 ∧ Hid (LoopAt w7 B b { r with pos := p } g S (⟨ax, t.1, t.2, ps⟩, A, c) wr) ∧ Hid ((qpreds (r.s.data.toList.drop p) ps).past (p - q) = P))
            case atStart => exact ⟨q, [], none, 0, Nat.le_refl _, hql, rfl, by simp, HA7.out, by show _ = _; rw [Nat.sub_self, Told.past_zero, hP.out]⟩
            case round =>
              obtain ⟨p, ps, A, c, hqp, hpl, rfl, hps, HA, hin⟩ := hrel
              rename_i wr0 _
              obtain ⟨_, z1, _⟩ := HA.out.q.all
              have hin' := hin.out
              cases hb : pre [91] (r.s.data.toList.drop p) with
              | false =>
                have HB : Hid (pre [91] (r.s.data.toList.drop p) = false) := hb
                rw [qpreds_none hb] at hin'
                have HP : Hid (P = .ok ps (p - q)) := by show _ = _; rw [← hin']; rfl
                clear hin hin' hb
                go_wp2_with fail
                refine (is_any b _ _ HA.out.q [91] hpl hs false HB (by decide)).mono ?_
                rintro e8 w8 ⟨rfl, h8, hg8⟩
                have HA8 := HA.out.called hB hBw7 rfl h8 hg8
                clear z1
                go_wp2_with fail
                go_ret
                rw [← HVP.out, HP.out]
                refine ⟨HB7.out.trans HA8.below, rfl, ?_, A, c, HA8.s, HA8.fin hBw7 HQ7.out HS7.out HP7.out⟩
                have := HA8.q
                rw [show r.pos + (k + n + (p - q)) = p by have := hq.out; omega]
                exact this
              | true =>
                have HB : Hid (pre [91] (r.s.data.toList.drop p) = true) := hb
                have hp1 := pre1_len hb
                rw [HL.out] at hp1
                go_wp2_with fail
                refine (is_any b _ _ HA.out.q [91] hpl hs true HB (by decide)).mono ?_
                rintro e8 w8 ⟨rfl, h8, hg8⟩
                have HA8 : Hid (LoopAt w7 B b { r with pos := p + 1 } g S (⟨ax, t.1, t.2, ps⟩, A, c) w8) := HA.out.called hB hBw7 rfl h8 hg8
                clear h8 z1
                obtain ⟨hne, hBg, ⟨c0, c1, c2, c3⟩, fz⟩ := HA8.out.s.cells HA8.out.q ho.out
                by_cases h5 : 5 ≤ ps.length
                · have HP : Hid (P = .bad (p - q) 70) := by show _ = _; rw [← hin', qpreds_many hb h5]; rfl
                  have h5' : (5 : Int) ≤ ps.length := by omega
                  clear hin hin' hb c0 c1 c2 fz
                  go_wp2_with fail
                  refine (fail_any b _ w8 HA8.out.q p 70).mono ?_
                  rintro e9 w9 ⟨rfl, h9, hg9⟩
                  have HA9 := HA8.out.called' hB hBw7 h9 rfl hg9
                  clear c3
                  go_wp2_with fail
                  go_ret
                  rw [← HVP.out, HP.out]
                  refine ⟨HB7.out.trans HA9.below, rfl, p + 1, ?_⟩
                  have := HA9.q
                  rw [show r.pos + (k + n + (p - q)) = p by have := hq.out; omega]
                  exact this
                · have h5' : (ps.length : Int) < 5 := by omega
                  obtain ⟨U, hU⟩ : ∃ U, Hid (qpred (r.s.data.toList.drop (p + 1)) = U) := ⟨_, rfl⟩
                  have hU1 : qpred ((r.s.data.toList.drop p).drop 1) = U := by rw [List.drop_drop]; exact hU.out
                  have hw := qpred_within (r.s.data.toList.drop (p + 1))
                  rw [hU.out, List.length_drop, HL.out] at hw
                  clear c0 c1 c2 fz
                  go_wp2_with fail
                  refine (pred_any b _ w8 HA8.out.q hp1 hs U hU).mono ?_
                  cases U with
                  | bad j d =>
                    have HP : Hid (P = .bad (p - q + (1 + j)) d) := by show _ = _; rw [← hin', qpreds_bad hb h5 hU1]; rfl
                    rintro e9 w9 ⟨⟨v, rfl, ⟨z, rfl⟩, p9, h9⟩, hg9⟩
                    have HA9 := HA8.out.called' hB hBw7 h9 rfl hg9
                    have HA10 := HA9.quiet hBw7 ((Below.refl _ w9).alloc (Nat.le_refl _) (.cells #[.int .i64 z.kind, .int .i64 z.num, .string ⟨z.name.toArray⟩, .string ⟨z.value.toArray⟩] 39))
                    clear hin hin' hb hw hU1 c3
                    unfold predC
                    go_wp2_with fail
                    go_ret
                    rw [← HVP.out, HP.out]
                    refine ⟨HB7.out.trans HA10.below, rfl, p9, ?_⟩
                    have := HA10.q
                    rw [show r.pos + (k + n + (p - q + (1 + j))) = p + 1 + j by have := hq.out; omega]
                    exact this
                  | ok z m =>
                    obtain ⟨wlo, whi⟩ := hw
                    rintro e9 w9 ⟨⟨rfl, h9⟩, hg9⟩
                    have HA9 : Hid (LoopAt w7 B b { r with pos := p + 1 + m } g S (⟨ax, t.1, t.2, ps⟩, A, c) w9) := HA8.out.called hB hBw7 rfl h9 hg9
                    obtain ⟨W10, hW10⟩ : ∃ W10, Hid (W10 = w9.alloc (.cells #[.int .i64 z.kind, .int .i64 z.num, .string ⟨z.name.toArray⟩, .string ⟨z.value.toArray⟩] 39)) := ⟨_, rfl⟩
                    have HA10 : Hid (LoopAt w7 B b { r with pos := p + 1 + m } g S (⟨ax, t.1, t.2, ps⟩, A, c) W10) := by
                      show LoopAt _ _ _ _ _ _ _ _
                      rw [hW10.out]; exact HA9.out.quiet hBw7 ((Below.refl _ w9).alloc (Nat.le_refl _) _)
                    have y : ∀ (j : Nat) (u : Value), (#[.int .i64 z.kind, .int .i64 z.num, .string ⟨z.name.toArray⟩, .string ⟨z.value.toArray⟩] : Array Value)[j]? = some u → W10.cell? ⟨w9.heap.size, j, none⟩ = some u := fun j u hu => by rw [hW10.out, World.cell?_alloc_at _ _ _ _ rfl]; exact hu
                    have HX10 : Hid (BoxP W10 w9.heap.size z) := ⟨y 0 _ rfl, y 1 _ rfl, y 2 _ rfl, y 3 _ rfl⟩
                    have hbx : w9.heap.size ≠ b := by have := HA9.out.q.lt; omega
                    have hgx : w9.heap.size ≠ g := by have := HA9.out.s.last.2.1; omega
                    have hzx : w9.heap.size < W10.heap.size := by rw [hW10.out]; simp
                    clear y c3
                    have hpm : p + 1 + m ≤ r.s.size := by omega
                    have hd2 : (r.s.data.toList.drop p).drop (1 + m) = r.s.data.toList.drop (p + 1 + m) := by rw [List.drop_drop, show p + (1 + m) = p + 1 + m by omega]
                    unfold predC
                    go_wp2_with fail
                    rw [← hW10.out]
                    cases hc : pre [93] (r.s.data.toList.drop (p + 1 + m)) with
                    | false =>
                      have HC : Hid (pre [93] (r.s.data.toList.drop (p + 1 + m)) = false) := hc
                      have HP : Hid (P = .bad (p - q + (1 + m)) 70) := by show _ = _; rw [← hin', qpreds_open hb h5 hU1 (by rw [hd2]; exact hc)]; rfl
                      clear hin hin' hb hU1 hd2 hc
                      refine (must_any b _ W10 HA10.out.q [93] hpm hs false HC (by decide)).mono ?_
                      rintro e11 w11 ⟨rfl, h11, hg11⟩
                      have HA11 := HA10.out.called' hB hBw7 h11 rfl hg11
                      go_wp2_with fail
                      go_ret
                      rw [← HVP.out, HP.out]
                      refine ⟨HB7.out.trans HA11.below, rfl, p + 1 + m, ?_⟩
                      have := HA11.q
                      rw [show r.pos + (k + n + (p - q + (1 + m))) = p + 1 + m by have := hq.out; omega]
                      exact this
                    | true =>
                      have HC : Hid (pre [93] (r.s.data.toList.drop (p + 1 + m)) = true) := hc
                      have hc1 := pre1_len hc
                      rw [HL.out] at hc1
                      have HIN : Hid ((qpreds (r.s.data.toList.drop (p + 1 + m + 1)) (ps ++ [z])).past (p + 1 + m + 1 - q) = P) := by
                        show _ = _
                        rw [← hin', qpreds_step hb h5 hU1 (by rw [hd2]; exact hc), Told.past_past, List.drop_drop, show p + (m + 2) = p + 1 + m + 1 by omega, show p - q + (m + 2) = p + 1 + m + 1 - q by omega]
                      clear hin hin' hb hU1 hd2 hc
                      refine (must_any b _ W10 HA10.out.q [93] hpm hs true HC (by decide)).mono ?_
                      rintro e11 W1 ⟨rfl, h11, hg11⟩
                      have HA11 : Hid (LoopAt w7 B b { r with pos := p + 1 + m + 1 } g S (⟨ax, t.1, t.2, ps⟩, A, c) W1) := HA10.out.called hB hBw7 rfl h11 hg11
                      have HS : Hid (BoxP W1.drew w9.heap.size z) := BoxP.keep (w := W10) HX10.out (fun j => by
                        unfold World.cell?
                        rw [show W1.drew.heap = W1.heap from rfl, hg11.block w9.heap.size hzx (by intro e; injection e with e; exact hbx e)])
                      have hzx1 : w9.heap.size < W1.heap.size := Nat.lt_of_lt_of_le hzx hg11.size
                      obtain ⟨_, _, ⟨_, _, _, z3⟩, fz3⟩ := HA11.out.s.cells HA11.out.q ho.out
                      have hf3 := fz3 (o + 3)
                      have H2 : Hid (W1.ownsRow w7.heap.size 39 4 (.slice A ps.length c) ps.length (ps.flatMap cellsP)) := HA11.out.p
                      have hzB : w7.heap.size ≤ W1.drew.heap.size := by
                        have h1 := HA11.out.below.size
                        exact h1
                      have hown2 : ∀ k, (Value.slice A ps.length c).ownBlock = some k → k = w9.heap.size → False := fun k hk e => by
                        have h1 := (own_type HA9.out.p k hk).2.1
                        omega
                      have HOWN2 := Lib.hid hown2
                      clear h11
                      go_wp2_with fail
                      refine wp_region_held_drew (S := fun w' => w'.cell? ⟨w9.heap.size, 0, none⟩ = some (.int .i64 z.kind) ∧ w'.cell? ⟨w9.heap.size, 1, none⟩ = some (.int .i64 z.num) ∧ w'.cell? ⟨w9.heap.size, 2, none⟩ = some (.string ⟨z.name.toArray⟩) ∧ w'.cell? ⟨w9.heap.size, 3, none⟩ = some (.string ⟨z.value.toArray⟩)) (by kernel_rfl) HS.out (fun hHeld => ?_)
                      refine tks (oi := ⟨_, _, _, _, _, _⟩) (v := ?_) 0 rfl (.inl ⟨by rfl, ?_⟩) ?_; rotate_left
                      · (intro wS hSw; (try dsimp only at hSw); go_simp); all_goals with_reducible rfl
                      try go_frame
                      refine tks (oi := ⟨_, _, _, _, _, _⟩) (v := ?_) 1 rfl (.inl ⟨by rfl, ?_⟩) ?_; rotate_left
                      · (intro wS hSw; (try dsimp only at hSw); go_simp); all_goals with_reducible rfl
                      try go_frame
                      refine tks (oi := ⟨_, _, _, _, _, _⟩) (v := ?_) 2 rfl (.inl ⟨by rfl, ?_⟩) ?_; rotate_left
                      · (intro wS hSw; (try dsimp only at hSw); go_simp); all_goals with_reducible rfl
                      try go_frame
                      refine tks (oi := ⟨_, _, _, _, _, _⟩) (v := ?_) 3 rfl (.inl ⟨by rfl, ?_⟩) ?_; rotate_left
                      · (intro wS hSw; (try dsimp only at hSw); go_simp); all_goals with_reducible rfl
                      try go_frame
                      refine tks (oi := ⟨_, _, _, _, _, _⟩) (v := ?_) 5 rfl (.inl ⟨by rfl, ?_⟩) ?_; rotate_left
                      · (intro wS hSw; (try dsimp only at hSw); go_simp); all_goals with_reducible rfl
                      try go_frame
                      have z0e : W1.drew.cell? ⟨g, o + 3, none⟩ = some (.slice A ps.length c) := z3
                      have HS2 : Hid (BoxP (W1.drew.alloc (.cells #[.int .i64 z.kind, .int .i64 z.num, .string ⟨z.name.toArray⟩, .string ⟨z.value.toArray⟩] 39)) w9.heap.size z) := BoxP.keep HS.out (fun j => World.cell?_alloc_lt _ _ _ hzx1)
                      have hgd : g < W1.heap.size := HA11.out.s.last.2.1
                      have z0f : (W1.drew.alloc (.cells #[.int .i64 z.kind, .int .i64 z.num, .string ⟨z.name.toArray⟩, .string ⟨z.value.toArray⟩] 39)).cell? ⟨g, o + 3, none⟩ = some (.slice A ps.length c) := (World.cell?_alloc_lt _ _ _ hgd).trans z0e
                      refine wpAnyH_ready (rs := [4, 6]) (by kernel_rfl) (by simp) ?_
                      refine AllReadyH.cons (o := ⟨_, _, _, _, _, _⟩) rfl (fun K hK => ?_) (AllReadyH.cons (o := ⟨_, _, _, _, _, _⟩) rfl (fun K hK => ?_) AllReadyH.nil)
                      · go_simp
                        refine hK.out _ _ (HS.out) (fun hHeld => ?_)
                        clear hK K
                        try go_frame
                        refine wpAnyH_ready (rs := [6]) (by kernel_rfl) (by simp) ?_
                        refine AllReadyH.cons (o := ⟨_, _, _, _, _, _⟩) rfl (fun K hK => ?_) AllReadyH.nil
                        go_simp
                        refine hK.out _ _ (HS2.out) (fun hHeld => ?_)
                        clear hK K
                        try go_frame
                        refine wpAnyH_ready (rs := [7]) (by kernel_rfl) (by simp) ?_
                        refine AllReadyH.cons (o := ⟨_, _, _, _, _, _⟩) rfl (fun K hK => ?_) AllReadyH.nil
                        refine appendSw (.tmp 84) (.tmp 86) 35 rfl w7.heap.size 39 (.agg #[.int .i64 0, .int .i64 0, .string ByteArray.empty, .string ByteArray.empty]) 4 48 Tryd.underlying35 infoPred rfl (by decide) _ ps.length _ (cellsP z) rfl H2.out hzB _ rfl rfl (cellsP_length _) (cellsP_one _) (by omega) (by decide) ?_
                        intro a4 c4 w4 hown4 hb4 hz4 hg4
                        have HD : Hid (LoopAt w7 B b { r with pos := p + 1 + m + 1 } g S (⟨ax, t.1, t.2, ps⟩, A, c) (W1.drew.alloc (.cells #[.int .i64 z.kind, .int .i64 z.num, .string ⟨z.name.toArray⟩, .string ⟨z.value.toArray⟩] 39))) :=
                          HA11.out.quiet hBw7 (((Below.refl _ W1).drew).alloc (Nat.le_refl _) _)
                        have hownb : some b ≠ (Value.slice A ps.length c).ownBlock := fun hg => by
                          obtain ⟨_, _, cur, hc⟩ := own_type HD.out.p b hg.symm
                          have h1 := HD.out.q
                          unfold QAt at h1
                          rw [hc] at h1
                          injection h1 with h1
                          injection h1 with _ h1
                          exact absurd h1 (by decide)
                        have hz4' : W1.heap.size < w4.heap.size := hz4
                        have HS4 : Hid (BoxP w4 w9.heap.size z) := BoxP.keep HS2.out (fun j => World.grownBy.cell_far hg4 ⟨w9.heap.size, j, none⟩ (by show w9.heap.size < _; simp; omega) (fun e => HOWN2.out _ e.symm rfl))
                        have HQ4 : Hid (QAt w4 b { r with pos := p + 1 + m + 1 }) := (hg4.block b HD.out.q.lt hownb).trans HD.out.q
                        have HSt4 : Hid (StepsOwn w4 B (some ⟨g, 0, none⟩) r.c (S ++ [(⟨ax, t.1, t.2, ps⟩, A, c)])) := own_grown HD.out.s HD.out.p (by decide) hg4
                        obtain ⟨_, _, ⟨_, _, _, k3⟩, kfz⟩ := HSt4.out.cells HQ4.out ho.out
                        have kf3 := kfz (o + 3)
                        refine hK.out _ _ (HS4.out) (fun hHeld => ?_)
                        clear hK K
                        try go_frame
                        refine tks (oi := ⟨_, _, _, _, _, _⟩) (v := ?_) 8 rfl (.inl ⟨by rfl, ?_⟩) ?_; rotate_left
                        · (intro wS hSw; (try dsimp only at hSw); go_simp); all_goals with_reducible rfl
                        try go_frame
                        refine tks (oi := ⟨_, _, _, _, _, _⟩) (v := ?_) 9 rfl (.inl ⟨by rfl, ?_⟩) ?_; rotate_left
                        · (intro wS hSw; (try dsimp only at hSw); go_simp); all_goals with_reducible rfl
                        try go_frame
                        refine wpAnyH_ready (rs := [10]) (by kernel_rfl) (by simp) ?_
                        refine AllReadyH.cons (o := ⟨_, _, _, _, _, _⟩) rfl (fun K hK => ?_) AllReadyH.nil
                        go_simp
                        have HS5 : Hid (BoxP (w4.setCell ⟨g, o + 3, none⟩ (.slice a4 (ps.length + 1) c4)) w9.heap.size z) := BoxP.keep HS4.out (fun j => World.grownBy.cell_far (Lib.grownBy_setCell w4 g (o + 3) _) ⟨w9.heap.size, j, none⟩ (by show w9.heap.size < _; omega) (fun e => by injection e with e; exact hgx e))
                        refine hK.out _ _ (HS5.out) (fun hHeld => ?_)
                        clear hK K
                        try go_frame
                        refine wpAnyH_done (by kernel_rfl) ?_ _
                        clear hHeld
                        go_wp2_with fail
                        go_roundg (r.s.size - (p + 1 + m + 1))
                        case measure => omega
                        case rel =>
                          have hfin : PredsOwn w4 w7.heap.size a4 c4 (ps ++ [z]) := by
                            unfold PredsOwn
                            rw [List.length_append, List.flatMap_append]
                            simpa using hown4
                          have hgg := Lib.grownBy_setCell w4 g (o + 3) (.slice a4 (ps.length + 1) c4)
                          have hst := HSt4.out.set (y := (⟨ax, t.1, t.2, ps ++ [z]⟩, a4, c4)) 3 (.slice a4 (ps.length + 1) c4) (by decide) (by simp [cellsS])
                          rw [ho.out] at hst
                          refine ⟨p + 1 + m + 1, ps ++ [z], a4, c4, by omega, hc1, rfl, by simp; omega, ⟨HQ4.out.other hgg hne, hst, own_grown hfin HSt4.out (by decide) hgg, ?_, fun k hk h1 h2 => ?_⟩, HIN⟩
                          · exact ((HA11.out.below.drew).trans (hb4.mono hBw7)).setCell hBg _
                          · refine (hgg.block k (Nat.lt_of_lt_of_le hk (by have := HD.out.below.size; have := hg4.size; omega)) (by intro e; injection e with e; exact h2 e)).trans ?_
                            exact ((hb4.block k hk)).trans (HA11.out.same k hk h1 h2)
                      · go_simp
                        refine hK.out _ _ (HS2.out) (fun hHeld => ?_)
                        clear hK K
                        try go_frame
                        refine wpAnyH_ready (rs := [4]) (by kernel_rfl) (by simp) ?_
                        refine AllReadyH.cons (o := ⟨_, _, _, _, _, _⟩) rfl (fun K hK => ?_) AllReadyH.nil
                        go_simp
                        refine hK.out _ _ (HS2.out) (fun hHeld => ?_)
                        clear hK K
                        try go_frame
                        refine wpAnyH_ready (rs := [7]) (by kernel_rfl) (by simp) ?_
                        refine AllReadyH.cons (o := ⟨_, _, _, _, _, _⟩) rfl (fun K hK => ?_) AllReadyH.nil
                        refine appendSw (.tmp 84) (.tmp 86) 35 rfl w7.heap.size 39 (.agg #[.int .i64 0, .int .i64 0, .string ByteArray.empty, .string ByteArray.empty]) 4 48 Tryd.underlying35 infoPred rfl (by decide) _ ps.length _ (cellsP z) rfl H2.out hzB _ rfl rfl (cellsP_length _) (cellsP_one _) (by omega) (by decide) ?_
                        intro a4 c4 w4 hown4 hb4 hz4 hg4
                        have HD : Hid (LoopAt w7 B b { r with pos := p + 1 + m + 1 } g S (⟨ax, t.1, t.2, ps⟩, A, c) (W1.drew.alloc (.cells #[.int .i64 z.kind, .int .i64 z.num, .string ⟨z.name.toArray⟩, .string ⟨z.value.toArray⟩] 39))) :=
                          HA11.out.quiet hBw7 (((Below.refl _ W1).drew).alloc (Nat.le_refl _) _)
                        have hownb : some b ≠ (Value.slice A ps.length c).ownBlock := fun hg => by
                          obtain ⟨_, _, cur, hc⟩ := own_type HD.out.p b hg.symm
                          have h1 := HD.out.q
                          unfold QAt at h1
                          rw [hc] at h1
                          injection h1 with h1
                          injection h1 with _ h1
                          exact absurd h1 (by decide)
                        have hz4' : W1.heap.size < w4.heap.size := hz4
                        have HS4 : Hid (BoxP w4 w9.heap.size z) := BoxP.keep HS2.out (fun j => World.grownBy.cell_far hg4 ⟨w9.heap.size, j, none⟩ (by show w9.heap.size < _; simp; omega) (fun e => HOWN2.out _ e.symm rfl))
                        have HQ4 : Hid (QAt w4 b { r with pos := p + 1 + m + 1 }) := (hg4.block b HD.out.q.lt hownb).trans HD.out.q
                        have HSt4 : Hid (StepsOwn w4 B (some ⟨g, 0, none⟩) r.c (S ++ [(⟨ax, t.1, t.2, ps⟩, A, c)])) := own_grown HD.out.s HD.out.p (by decide) hg4
                        obtain ⟨_, _, ⟨_, _, _, k3⟩, kfz⟩ := HSt4.out.cells HQ4.out ho.out
                        have kf3 := kfz (o + 3)
                        refine hK.out _ _ (HS4.out) (fun hHeld => ?_)
                        clear hK K
                        try go_frame
                        refine tks (oi := ⟨_, _, _, _, _, _⟩) (v := ?_) 8 rfl (.inl ⟨by rfl, ?_⟩) ?_; rotate_left
                        · (intro wS hSw; (try dsimp only at hSw); go_simp); all_goals with_reducible rfl
                        try go_frame
                        refine tks (oi := ⟨_, _, _, _, _, _⟩) (v := ?_) 9 rfl (.inl ⟨by rfl, ?_⟩) ?_; rotate_left
                        · (intro wS hSw; (try dsimp only at hSw); go_simp); all_goals with_reducible rfl
                        try go_frame
                        refine wpAnyH_ready (rs := [10]) (by kernel_rfl) (by simp) ?_
                        refine AllReadyH.cons (o := ⟨_, _, _, _, _, _⟩) rfl (fun K hK => ?_) AllReadyH.nil
                        go_simp
                        have HS5 : Hid (BoxP (w4.setCell ⟨g, o + 3, none⟩ (.slice a4 (ps.length + 1) c4)) w9.heap.size z) := BoxP.keep HS4.out (fun j => World.grownBy.cell_far (Lib.grownBy_setCell w4 g (o + 3) _) ⟨w9.heap.size, j, none⟩ (by show w9.heap.size < _; omega) (fun e => by injection e with e; exact hgx e))
                        refine hK.out _ _ (HS5.out) (fun hHeld => ?_)
                        clear hK K
                        try go_frame
                        refine wpAnyH_done (by kernel_rfl) ?_ _
                        clear hHeld
                        go_wp2_with fail
                        go_roundg (r.s.size - (p + 1 + m + 1))
                        case measure => omega
                        case rel =>
                          have hfin : PredsOwn w4 w7.heap.size a4 c4 (ps ++ [z]) := by
                            unfold PredsOwn
                            rw [List.length_append, List.flatMap_append]
                            simpa using hown4
                          have hgg := Lib.grownBy_setCell w4 g (o + 3) (.slice a4 (ps.length + 1) c4)
                          have hst := HSt4.out.set (y := (⟨ax, t.1, t.2, ps ++ [z]⟩, a4, c4)) 3 (.slice a4 (ps.length + 1) c4) (by decide) (by simp [cellsS])
                          rw [ho.out] at hst
                          refine ⟨p + 1 + m + 1, ps ++ [z], a4, c4, by omega, hc1, rfl, by simp; omega, ⟨HQ4.out.other hgg hne, hst, own_grown hfin HSt4.out (by decide) hgg, ?_, fun k hk h1 h2 => ?_⟩, HIN⟩
                          · exact ((HA11.out.below.drew).trans (hb4.mono hBw7)).setCell hBg _
                          · refine (hgg.block k (Nat.lt_of_lt_of_le hk (by have := HD.out.below.size; have := hg4.size; omega)) (by intro e; injection e with e; exact h2 e)).trans ?_
                            exact ((hb4.block k hk)).trans (HA11.out.same k hk h1 h2)
end Go.Proofs.YtpfhdklbhhpbcaaDoor

/-
  The plain law: a query that was written is read as its steps. No program in sight.
-/
namespace Go.Proofs.YtpfhdklbhhpbcaaDoor

def predB (p : PredD) : Bool :=
  if p.kind = 1 then decide (1 ≤ p.num ∧ p.num ≤ 9999) && decide (p.name = [] ∧ p.value = [])
  else if p.kind = 2 then decide (p.num = 0 ∧ p.name = [] ∧ p.value = [])
  else if p.kind = 3 then nameL p.name && decide (p.num = 0 ∧ p.value = [])
  else if p.kind = 4 then nameL p.name && (decide (0 ≤ countL p.value) && decide (p.num = 0))
  else if p.kind = 5 then decide (0 ≤ countL p.value) && decide (p.num = 0 ∧ p.name = [])
  else false
def stepB (s : StepD) : Bool :=
  decide (1 ≤ s.axis ∧ s.axis ≤ 8) && decide (1 ≤ s.test ∧ s.test ≤ 4) && (if s.test = 1 then nameL s.name else decide (s.name = [])) && decide (s.preds.length ≤ 5) && s.preds.all predB
def rightL (l : List StepD) : Bool := l.all stepB && decide (1 ≤ l.length ∧ l.length ≤ 20)

def testT : Int → List UInt8
  | 2 => [42]
  | 3 => tText
  | 4 => tNode
  | _ => []
def predT (p : PredD) : List UInt8 :=
  if p.kind = 1 then [91] ++ Lib.decDigits p.num.toNat ++ [93]
  else if p.kind = 2 then [91] ++ tLast ++ [93]
  else if p.kind = 3 then [91, 64] ++ p.name ++ [93]
  else if p.kind = 4 then [91, 64] ++ p.name ++ [61, 34] ++ escV p.value ++ [34, 93]
  else [91] ++ tText ++ [61, 34] ++ escV p.value ++ [34, 93]
def stepT (s : StepD) : List UInt8 := [47] ++ axisT s.axis.toNat ++ testT s.test ++ s.name ++ s.preds.flatMap predT
def queryT (l : List StepD) : List UInt8 := l.flatMap stepT

/-- what no character of a name begins with -/
def stopQ (r : List UInt8) : Prop := ∀ x t, r = x :: t → x.toNat < 128 ∧ partB (x.toNat : Int) = false ∧ 32 ≤ x.toNat
theorem next_low {x : UInt8} (hx : x.toNat < 128) (hc : charB (x.toNat : Int) = true) (t : List UInt8) : nextL (x :: t) = ((x.toNat : Int), 1) := by
  have h1 := next_enc (x.toNat : Int) hc t
  have h2 : enc (x.toNat : Int) = [x] := by
    have h3 := bt_toNat (x.toNat : Int) (by omega) (by omega)
    have h4 : bt (x.toNat : Int) = x := UInt8.toNat.inj (by omega)
    have h5 : enc (x.toNat : Int) = [bt (x.toNat : Int)] := enc_low (by omega)
    rw [h4] at h5
    exact h5
  rw [h2] at h1
  exact h1
theorem part_stop {r : List UInt8} (h : stopQ r) : partN r = 0 := by
  cases r with
  | nil => rfl
  | cons x t =>
    obtain ⟨h1, h2, h3⟩ := h x t rfl
    refine partN_none (.inr ?_)
    have hc : charB (x.toNat : Int) = true := by unfold charB; simp; omega
    rw [next_low h1 hc]
    exact h2
theorem part_chars : ∀ (cs : List Int) (r : List UInt8), (∀ c ∈ cs, charB c = true ∧ partB c = true) → stopQ r → partN (cs.flatMap enc ++ r) = (cs.flatMap enc).length
  | [], r, _, hr => by simpa using part_stop hr
  | c :: cs, r, h, hr => by
    obtain ⟨h1, h2⟩ := h c (by simp)
    obtain ⟨X, hX⟩ : ∃ X, cs.flatMap enc ++ r = X := ⟨_, rfl⟩
    have hn := next_enc c h1 X
    have hs : ¬ ((nextL (enc c ++ X)).2 = 0 ∨ partB (nextL (enc c ++ X)).1 = false) := by
      rw [hn]
      rintro (e | e)
      · exact enc_ne c (List.eq_nil_of_length_eq_zero e)
      · rw [show partB c = true from h2] at e; cases e
    have hd : (enc c ++ X).drop (enc c).length = X := List.drop_left
    have ih := part_chars cs r (fun d hd => h d (by simp [hd])) hr
    rw [List.flatMap_cons, List.append_assoc, hX, partN_step hs, hn]
    show (enc c).length + partN ((enc c ++ X).drop (enc c).length) = _
    rw [hd, ← hX, ih, List.length_append]
theorem name_chars {s : List UInt8} (h : nameL s = true) : ∃ c cs, s = (c :: cs).flatMap enc ∧ startB c = true ∧ (∀ d ∈ c :: cs, charB d = true ∧ partB d = true) := by
  unfold nameL at h
  split at h
  · rename_i c cs hcs
    simp only [Bool.and_eq_true, decide_eq_true_eq] at h
    obtain ⟨hs, hall⟩ := chars_back s _ hcs
    refine ⟨c, cs, hs, h.2.1, fun d hd => ⟨List.all_eq_true.1 hall d hd, ?_⟩⟩
    rcases List.mem_cons.1 hd with rfl | hd
    · exact h.2.2.1
    · exact List.all_eq_true.1 h.2.2.2 d hd
  · cases h
theorem qname_back {s r : List UInt8} (h : nameL s = true) (hr : stopQ r) : qname (s ++ r) = .ok s s.length := by
  obtain ⟨c, cs, e, _, h2⟩ := name_chars h
  have hp : partN (s ++ r) = s.length := by rw [e]; exact part_chars _ r h2 hr
  unfold qname
  rw [hp, List.take_left, h, if_neg (by decide)]

/-- the first byte of a name -/
theorem name_first {s : List UInt8} (h : nameL s = true) : ∃ b t, s = b :: t ∧ b ≠ 42 ∧ b ≠ 46 ∧ b ≠ 47 ∧ b ≠ 40 := by
  obtain ⟨c, cs, e, h1, h2⟩ := name_chars h
  have hc := (h2 c (by simp)).1
  rw [List.flatMap_cons] at e
  by_cases hl : c < 128
  · rw [enc_low hl] at e
    have hb := charB_bd hc
    refine ⟨bt c, cs.flatMap enc, e, ?_, ?_, ?_, ?_⟩ <;>
    · intro he
      have := bt_toNat c (by omega) (by omega)
      rw [he] at this
      simp [startB] at h1
      have h4 : ((42 : UInt8).toNat, (46 : UInt8).toNat, (47 : UInt8).toNat, (40 : UInt8).toNat) = (42, 46, 47, 40) := rfl
      simp at this
      omega
  · have hh := enc_high hc (by omega)
    cases hen : enc c with
    | nil => exact absurd hen (enc_ne c)
    | cons b t =>
      rw [hen] at e hh
      have := hh b (by simp)
      refine ⟨b, _, e, ?_, ?_, ?_, ?_⟩ <;> (intro he; subst he; revert this; decide)
/-- a bracket stands in no name -/
theorem name_no40 {s : List UInt8} (h : nameL s = true) : ∀ b ∈ s, b ≠ 40 := by
  obtain ⟨c, cs, e, _, h2⟩ := name_chars h
  intro b hb
  rw [e] at hb
  obtain ⟨d, hd, hbd⟩ := List.mem_flatMap.1 hb
  obtain ⟨hc, hp⟩ := h2 d hd
  by_cases hl : d < 128
  · rw [enc_low hl] at hbd
    simp at hbd; subst hbd
    have hb := charB_bd hc
    intro he
    have := bt_toNat d (by omega) (by omega)
    rw [he] at this
    simp [partB, startB] at hp
    simp at this
    omega
  · intro he
    have := enc_high hc (by omega) b hbd
    subst he; revert this; decide
/-- .. so that no text of letters and a bracket stands where a name does -/
theorem name_notest {s r : List UInt8} (h : nameL s = true) (hr : ∀ x t, r = x :: t → x = 91 ∨ x = 47) (a b c d : UInt8) (ha : a ≠ 91 ∧ a ≠ 47) (hb : b ≠ 91 ∧ b ≠ 47) (hc : c ≠ 91 ∧ c ≠ 47) (hd : d ≠ 91 ∧ d ≠ 47) :
    pre [a, b, c, d, 40, 41] (s ++ r) = false := by
  have hn := name_no40 h
  cases hp : pre [a, b, c, d, 40, 41] (s ++ r) with
  | false => rfl
  | true =>
    exfalso
    simp only [pre, List.length_cons, List.length_nil, beq_iff_eq] at hp
    have hlen := congrArg List.length hp
    simp only [List.length_take, List.length_cons, List.length_nil] at hlen
    have hi : ∀ i, i < 6 → (s ++ r)[i]? = [a, b, c, d, 40, 41][i]? := fun i hi => by
      rw [← hp, List.getElem?_take_of_lt hi]
    rcases Nat.lt_or_ge 4 s.length with hs | hs
    · have h4 := hi 4 (by omega)
      rw [List.getElem?_append_left hs] at h4
      exact hn 40 (List.mem_of_getElem? h4) rfl
    · -- what stands behind the name
      have hk := hi s.length (by omega)
      rw [List.getElem?_append_right (Nat.le_refl _), Nat.sub_self] at hk
      cases r with
      | nil => simp at hlen; omega
      | cons x t =>
        have hx := hr x t rfl
        simp only [List.getElem?_cons_zero] at hk
        match hsl : s.length, hs with
        | 0, _ => rw [hsl] at hk; simp at hk; subst hk; rcases hx with h | h; exact ha.1 h; exact ha.2 h
        | 1, _ => rw [hsl] at hk; simp at hk; subst hk; rcases hx with h | h; exact hb.1 h; exact hb.2 h
        | 2, _ => rw [hsl] at hk; simp at hk; subst hk; rcases hx with h | h; exact hc.1 h; exact hc.2 h
        | 3, _ => rw [hsl] at hk; simp at hk; subst hk; rcases hx with h | h; exact hd.1 h; exact hd.2 h
        | 4, _ => rw [hsl] at hk; simp at hk; subst hk; rcases hx with h | h <;> exact absurd h (by decide)
        | n + 5, hs => omega

theorem qvalue_back {v r : List UInt8} (h : 0 ≤ countL v) : qvalue ([34] ++ escV v ++ [34] ++ r) = .ok v (1 + (escV v).length + 1) := by
  obtain ⟨o, ho⟩ : ∃ o, escL true v = some o := by
    unfold countL at h
    unfold escL
    cases hl : charsL v with
    | none => rw [hl] at h; simp at h
    | some cs => exact ⟨_, rfl⟩
  have e : escV v = o := by unfold escV; rw [ho]; rfl
  rw [e]
  have e1 : [34] ++ o ++ [34] ++ r = 34 :: (o ++ 34 :: r) := by simp
  rw [e1]
  unfold qvalue
  rw [if_neg (by rw [show pre [34] (34 :: (o ++ 34 :: r)) = true from pre_same [34] _]; decide)]
  have e2 : (o ++ 34 :: r).takeWhile (· != 34) = o := takeWhile_all _ o _ (fun x hx => by simpa using esc_value ho x hx) (fun x s hx => by injection hx with hx _; subst hx; rfl)
  have e3 : (34 :: (o ++ 34 :: r)).drop 1 = o ++ 34 :: r := rfl
  simp only
  rw [e3, e2, undo_esc true v o ho, if_neg (by simp), if_neg (by simp)]

theorem dig_nat {k : Nat} (h : k < 10) : (UInt8.ofNat (48 + k)).toNat = 48 + k := by
  show (48 + k) % 256 = 48 + k
  omega
theorem dec_all (n : Nat) : ∀ b ∈ Lib.decDigits n, digB b = true := by
  induction n using Nat.strongRecOn with
  | ind n ih =>
    intro b hb
    rw [Lib.decDigits] at hb
    split at hb
    · rename_i hn
      rw [List.mem_singleton] at hb; subst hb
      unfold digB; rw [dig_nat hn]; simp; omega
    · rcases List.mem_append.1 hb with hb | hb
      · exact ih (n / 10) (by omega) b hb
      · rw [List.mem_singleton] at hb; subst hb
        unfold digB; rw [dig_nat (Nat.mod_lt _ (by decide))]; simp; omega
theorem dec_ne (n : Nat) : Lib.decDigits n ≠ [] := by
  rw [Lib.decDigits]
  split <;> simp
theorem dec_first (n : Nat) (h : 1 ≤ n) : ∃ b t, Lib.decDigits n = b :: t ∧ b ≠ 48 := by
  induction n using Nat.strongRecOn with
  | ind n ih =>
    rw [Lib.decDigits]
    split
    · rename_i hn
      refine ⟨_, [], rfl, fun e => ?_⟩
      have := dig_nat hn
      rw [e] at this
      simp at this; omega
    · obtain ⟨b, t, e, hb⟩ := ih (n / 10) (by omega) (by omega)
      exact ⟨b, t ++ [UInt8.ofNat (48 + n % 10)], by rw [e]; rfl, hb⟩
theorem numQ_snoc (n : Int) (ds : List UInt8) (d : UInt8) : numQ n (ds ++ [d]) = min (10 * numQ n ds + ((d.toNat : Int) - 48)) 10000 := by
  induction ds generalizing n with
  | nil => rfl
  | cons a ds ih => simp only [List.cons_append, numQ]; exact ih _
theorem num_dec (n : Nat) (h : n ≤ 9999) : numQ 0 (Lib.decDigits n) = n := by
  induction n using Nat.strongRecOn with
  | ind n ih =>
    rw [Lib.decDigits]
    split
    · rename_i hn
      simp only [numQ]
      rw [dig_nat hn]; omega
    · rw [numQ_snoc, ih (n / 10) (by omega) (by omega), dig_nat (Nat.mod_lt _ (by decide))]
      omega
theorem qnumber_back {n : Nat} (h1 : 1 ≤ n) (h2 : n ≤ 9999) (r : List UInt8) : qnumber (Lib.decDigits n ++ 93 :: r) = .ok n (Lib.decDigits n).length := by
  unfold qnumber
  have e : (Lib.decDigits n ++ 93 :: r).takeWhile digB = Lib.decDigits n := takeWhile_all _ _ _ (dec_all n) (fun x s hx => by injection hx with hx _; subst hx; rfl)
  obtain ⟨b, t, hb, hb48⟩ := dec_first n h1
  have hp : pre [48] (Lib.decDigits n ++ 93 :: r) = false := by
    rw [hb]
    simp [pre]
    exact hb48
  simp only
  rw [e, num_dec n h2, hp, if_neg (by simp [dec_ne]; omega)]

theorem stop_lit {x : UInt8} {r : List UInt8} (h : x = 93 ∨ x = 91 ∨ x = 47 ∨ x = 61) : stopQ (x :: r) := by
  intro y t e
  injection e with e _
  subst e
  rcases h with rfl | rfl | rfl | rfl <;> exact ⟨by decide, by decide, by decide⟩
theorem digit_notest {n : Nat} (h1 : 1 ≤ n) (r : List UInt8) (a : UInt8) (p : List UInt8) (ha : digB a = false) : pre (a :: p) (Lib.decDigits n ++ r) = false := by
  obtain ⟨b, t, hb, _⟩ := dec_first n h1
  have hd := dec_all n b (by rw [hb]; simp)
  rw [hb]
  cases hp : pre (a :: p) (b :: t ++ r) with
  | false => rfl
  | true =>
    simp only [pre, List.length_cons, List.cons_append, List.take_succ_cons, beq_iff_eq, List.cons.injEq] at hp
    rw [hp.1, ha] at hd; cases hd

/-- a predicate behind its bracket, with its end -/
theorem qpred_back {p : PredD} (h : predB p = true) (r : List UInt8) : ∃ m, predT p = [91] ++ m ++ [93] ∧ qpred (m ++ 93 :: r) = .ok p m.length := by
  obtain ⟨kind, num, name, value⟩ := p
  unfold predB at h
  simp only at h
  split at h
  · rename_i hk
    subst hk
    simp only [Bool.and_eq_true, decide_eq_true_eq] at h
    obtain ⟨⟨h1, h2⟩, rfl, rfl⟩ := h
    obtain ⟨n, rfl⟩ : ∃ n : Nat, num = n := ⟨num.toNat, by omega⟩
    refine ⟨Lib.decDigits n, rfl, ?_⟩
    unfold qpred
    rw [digit_notest (by omega) _ 64 [] (by decide), show pre tLast (Lib.decDigits n ++ 93 :: r) = false from digit_notest (by omega) _ 108 _ (by decide), show pre tText (Lib.decDigits n ++ 93 :: r) = false from digit_notest (by omega) _ 116 _ (by decide)]
    rw [qnumber_back (by omega) (by omega) r]
    simp
  split at h
  · rename_i hk
    subst hk
    simp only [decide_eq_true_eq] at h
    obtain ⟨rfl, rfl, rfl⟩ := h
    refine ⟨tLast, rfl, ?_⟩
    unfold qpred
    rw [show pre [64] (tLast ++ 93 :: r) = false from rfl, pre_same tLast (93 :: r), if_neg (by decide), if_pos rfl]
    rfl
  split at h
  · rename_i hk
    subst hk
    simp only [Bool.and_eq_true, decide_eq_true_eq] at h
    obtain ⟨hn, rfl, rfl⟩ := h
    refine ⟨64 :: name, by simp [predT], ?_⟩
    unfold qpred
    rw [if_pos (show pre [64] (64 :: name ++ 93 :: r) = true from pre_same [64] _)]
    show (qattr (name ++ 93 :: r)).past 1 = _
    unfold qattr
    rw [qname_back hn (stop_lit (.inl rfl))]
    simp only
    rw [List.drop_left, if_pos (by rfl)]
    simp only [Told.past, List.length_cons]
    congr 1; omega
  split at h
  · rename_i hk
    subst hk
    simp only [Bool.and_eq_true, decide_eq_true_eq] at h
    obtain ⟨hn, hv, rfl⟩ := h
    refine ⟨64 :: (name ++ 61 :: ([34] ++ escV value ++ [34])), by simp [predT], ?_⟩
    unfold qpred
    rw [if_pos (show pre [64] (64 :: (name ++ 61 :: ([34] ++ escV value ++ [34])) ++ 93 :: r) = true from pre_same [64] _)]
    have e : (64 :: (name ++ 61 :: ([34] ++ escV value ++ [34])) ++ 93 :: r).drop 1 = name ++ (61 :: ([34] ++ escV value ++ [34] ++ 93 :: r)) := by simp
    rw [e]
    unfold qattr
    rw [qname_back hn (stop_lit (.inr (.inr (.inr rfl))))]
    simp only
    rw [List.drop_left, if_neg (by rw [show pre [61] (61 :: ([34] ++ escV value ++ [34] ++ 93 :: r)) = true from pre_same [61] _]; decide)]
    have e2 : (name ++ (61 :: ([34] ++ escV value ++ [34] ++ 93 :: r))).drop (name.length + 1) = [34] ++ escV value ++ [34] ++ 93 :: r := by
      rw [← List.drop_drop, List.drop_left]; rfl
    rw [e2, qvalue_back hv]
    simp only [Told.past, List.length_cons, List.length_append, List.length_nil]
    congr 1; omega
  split at h
  · rename_i h1 h2 h3 h4 hk
    subst hk
    simp only [Bool.and_eq_true, decide_eq_true_eq] at h
    obtain ⟨hv, rfl, rfl⟩ := h
    refine ⟨tText ++ (61 :: ([34] ++ escV value ++ [34])), by simp [predT], ?_⟩
    have e : tText ++ (61 :: ([34] ++ escV value ++ [34])) ++ 93 :: r = tText ++ (61 :: ([34] ++ escV value ++ [34] ++ 93 :: r)) := by simp
    rw [e]
    unfold qpred
    rw [show pre [64] (tText ++ (61 :: ([34] ++ escV value ++ [34] ++ 93 :: r))) = false from rfl, show pre tLast (tText ++ (61 :: ([34] ++ escV value ++ [34] ++ 93 :: r))) = false from rfl, pre_same tText (61 :: ([34] ++ escV value ++ [34] ++ 93 :: r)), if_neg (by decide), if_neg (by decide), if_pos rfl]
    have e3 : pre [61] ((tText ++ (61 :: ([34] ++ escV value ++ [34] ++ 93 :: r))).drop 6) = true := pre_same [61] ([34] ++ escV value ++ [34] ++ 93 :: r)
    have e4 : (tText ++ (61 :: ([34] ++ escV value ++ [34] ++ 93 :: r))).drop 7 = [34] ++ escV value ++ [34] ++ 93 :: r := rfl
    rw [e3, if_neg (by decide), e4, qvalue_back hv]
    simp only [tText, List.length_cons, List.length_append, List.length_nil]
    congr 1; omega
  · cases h
theorem qpreds_back : ∀ (qs ps : List PredD) (r : List UInt8), (∀ p ∈ qs, predB p = true) → ps.length + qs.length ≤ 5 → (∀ x t, r = x :: t → x ≠ 91) → qpreds (qs.flatMap predT ++ r) ps = .ok (ps ++ qs) (qs.flatMap predT).length
  | [], ps, r, _, _, hr => by
    rw [List.flatMap_nil, List.nil_append, List.append_nil]
    refine qpreds_none ?_
    cases r with
    | nil => rfl
    | cons x t => have := hr x t rfl; simp [pre, this]
  | p :: qs, ps, r, h, hl, hr => by
    obtain ⟨m, e, hm⟩ := qpred_back (h p (by simp)) (qs.flatMap predT ++ r)
    simp only [List.length_cons] at hl
    have e1 : (p :: qs).flatMap predT ++ r = 91 :: (m ++ 93 :: (qs.flatMap predT ++ r)) := by simp [e]
    have e2 : (91 :: (m ++ 93 :: (qs.flatMap predT ++ r))).drop (1 + m.length) = 93 :: (qs.flatMap predT ++ r) := by
      rw [Nat.add_comm, List.drop_succ_cons, List.drop_left]
    have e3 : (91 :: (m ++ 93 :: (qs.flatMap predT ++ r))).drop (m.length + 2) = qs.flatMap predT ++ r := by
      rw [show m.length + 2 = (1 + m.length) + 1 by omega, ← List.drop_drop, e2]; rfl
    have hs := qpreds_step (l := 91 :: (m ++ 93 :: (qs.flatMap predT ++ r))) (ps := ps) (pre_same [91] _) (by omega) hm (by rw [e2]; exact pre_same [93] _)
    rw [e1, hs, e3, qpreds_back qs (ps ++ [p]) r (fun q hq => h q (by simp [hq])) (by simp; omega) hr]
    simp [Told.past, e]; omega

theorem axis_back (a : Nat) (h1 : 1 ≤ a) (h8 : a ≤ 8) (r : List UInt8) : axisN (axisT a ++ r) = a := by
  match a, h1, h8 with
  | 1, _, _ => rfl
  | 2, _, _ => rfl
  | 3, _, _ => rfl
  | 4, _, _ => rfl
  | 5, _, _ => rfl
  | 6, _, _ => rfl
  | 7, _, _ => rfl
  | 8, _, _ => rfl
  | n + 9, _, h => omega
theorem axis_dot (a : Nat) (h1 : 1 ≤ a) (h8 : a ≤ 8) (r : List UInt8) : pre [46, 46] (axisT a ++ r) = false ∧ pre [46] (axisT a ++ r) = false ∧ pre [47] (axisT a ++ r) = false := by
  match a, h1, h8 with
  | 1, _, _ => exact ⟨rfl, rfl, rfl⟩
  | 2, _, _ => exact ⟨rfl, rfl, rfl⟩
  | 3, _, _ => exact ⟨rfl, rfl, rfl⟩
  | 4, _, _ => exact ⟨rfl, rfl, rfl⟩
  | 5, _, _ => exact ⟨rfl, rfl, rfl⟩
  | 6, _, _ => exact ⟨rfl, rfl, rfl⟩
  | 7, _, _ => exact ⟨rfl, rfl, rfl⟩
  | 8, _, _ => exact ⟨rfl, rfl, rfl⟩
  | n + 9, _, h => omega
theorem pred_first (qs : List PredD) (r : List UInt8) (hr : ∀ x t, r = x :: t → x = 47) : ∀ x t, qs.flatMap predT ++ r = x :: t → x = 91 ∨ x = 47 := by
  intro x t e
  cases qs with
  | nil => exact .inr (hr x t (by simpa using e))
  | cons p qs =>
    have : ∃ m, predT p = 91 :: m := by
      unfold predT
      split
      · exact ⟨_, rfl⟩
      split
      · exact ⟨_, rfl⟩
      split
      · exact ⟨_, rfl⟩
      split
      · exact ⟨_, rfl⟩
      · exact ⟨_, rfl⟩
    obtain ⟨m, hm⟩ := this
    rw [List.flatMap_cons, hm] at e
    injection e with e _
    exact .inl e.symm
theorem qtest_back {t : Int} {n : List UInt8} (h1 : 1 ≤ t) (h4 : t ≤ 4) (hn : if t = 1 then nameL n = true else n = []) (r : List UInt8) (hr : ∀ x u, r = x :: u → x = 91 ∨ x = 47) :
    qtest (testT t ++ n ++ r) = .ok (t, n) (testT t ++ n).length := by
  have ht : t = 1 ∨ t = 2 ∨ t = 3 ∨ t = 4 := by omega
  rcases ht with rfl | rfl | rfl | rfl
  · rw [if_pos rfl] at hn
    have e : testT 1 ++ n = n := rfl
    rw [e]
    obtain ⟨b, u, hb, hb42, _⟩ := name_first hn
    have hp : pre [42] (n ++ r) = false := by rw [hb]; simp [pre, hb42]
    have hs : stopQ r := fun x u e => by
      have := hr x u e
      rcases this with rfl | rfl <;> exact ⟨by decide, by decide, by decide⟩
    unfold qtest
    rw [hp, show pre tText (n ++ r) = false from name_notest hn hr 116 101 120 116 (by decide) (by decide) (by decide) (by decide), show pre tNode (n ++ r) = false from name_notest hn hr 110 111 100 101 (by decide) (by decide) (by decide) (by decide), qname_back hn hs]
    rfl
  · rw [if_neg (by decide)] at hn; subst hn; rfl
  · rw [if_neg (by decide)] at hn; subst hn; rfl
  · rw [if_neg (by decide)] at hn; subst hn; rfl
theorem qstep_back {s : StepD} (h : stepB s = true) (r : List UInt8) (hr : ∀ x t, r = x :: t → x = 47) : ∃ m, stepT s = 47 :: m ∧ pre [47] (m ++ r) = false ∧ qstep (m ++ r) = .ok s m.length := by
  obtain ⟨ax, t, n, ps⟩ := s
  unfold stepB at h
  simp only [Bool.and_eq_true, decide_eq_true_eq, List.all_eq_true] at h
  obtain ⟨⟨⟨⟨⟨a1, a2⟩, t1, t2⟩, hn⟩, hl⟩, hp⟩ := h
  obtain ⟨a, rfl⟩ : ∃ a : Nat, ax = a := ⟨ax.toNat, by omega⟩
  have hn' : if t = 1 then nameL n = true else n = [] := by
    split at hn
    · rename_i h; rw [if_pos h]; exact hn
    · rename_i h; rw [if_neg h]; simpa using hn
  have hr91 : ∀ x u, r = x :: u → x ≠ 91 := fun x u e => by rw [hr x u e]; decide
  have hb := pred_first ps r hr
  have e : axisT a ++ testT t ++ n ++ ps.flatMap predT ++ r = axisT a ++ (testT t ++ n ++ (ps.flatMap predT ++ r)) := by simp
  obtain ⟨d1, d2, d3⟩ := axis_dot a (by omega) (by omega) (testT t ++ n ++ (ps.flatMap predT ++ r))
  refine ⟨axisT a ++ testT t ++ n ++ ps.flatMap predT, by simp [stepT], by rw [e]; exact d3, ?_⟩
  rw [e]
  unfold qstep
  rw [d1, d2, if_neg (by decide), if_neg (by decide)]
  simp only
  rw [axis_back a (by omega) (by omega), List.drop_left, qtest_back t1 t2 hn' _ hb]
  simp only
  have e2 : (axisT a ++ (testT t ++ n ++ (ps.flatMap predT ++ r))).drop ((axisT a).length + (testT t ++ n).length) = ps.flatMap predT ++ r := by
    rw [← List.drop_drop, List.drop_left, List.drop_left]
  rw [e2, qpreds_back ps [] r hp (by simpa using hl) hr91]
  simp only [List.nil_append]
  rw [if_neg (by omega)]
  congr 1
  simp; omega
theorem qall_back : ∀ (l ls : List StepD), l ≠ [] → (∀ s ∈ l, stepB s = true) → ls.length + l.length ≤ 20 → qall (queryT l) ls = .ok (ls ++ l) (queryT l).length
  | [], _, h, _, _ => absurd rfl h
  | s :: l, ls, _, h, hl => by
    simp only [List.length_cons] at hl
    have hr : ∀ x t, queryT l = x :: t → x = 47 := by
      intro x t e
      cases l with
      | nil => cases e
      | cons y l =>
        simp only [queryT, List.flatMap_cons, stepT, List.append_assoc, List.cons_append, List.nil_append] at e
        injection e with e _
        exact e.symm
    obtain ⟨m, e, h47, hm⟩ := qstep_back (h s (by simp)) (queryT l) hr
    have e1 : queryT (s :: l) = 47 :: (m ++ queryT l) := by simp [queryT, e]
    have ho : qone (47 :: (m ++ queryT l)) ls = .ok (ls ++ [s]) (1 + m.length) := by
      unfold qone
      rw [if_neg (by rw [show pre [47] (47 :: (m ++ queryT l)) = true from pre_same [47] _]; decide)]
      have hd : (47 :: (m ++ queryT l)).drop 1 = m ++ queryT l := rfl
      simp only [hd, h47, Bool.false_eq_true, false_and, if_false]
      rw [if_neg (by omega), hm]
    have hd : (47 :: (m ++ queryT l)).drop (1 + m.length) = queryT l := by rw [Nat.add_comm, List.drop_succ_cons, List.drop_left]
    rw [e1]
    by_cases hl0 : l = []
    · subst hl0
      rw [qall_end ho (by rw [hd]; rfl)]
      congr 1
      simp [queryT]; omega
    · have hne : queryT l ≠ [] := by
        obtain ⟨y, l', rfl⟩ := List.exists_cons_of_ne_nil hl0
        simp [queryT, stepT]
      rw [qall_step ho (by rw [hd]; exact hne), hd, qall_back l (ls ++ [s]) hl0 (fun y hy => h y (by simp [hy])) (by simp; omega)]
      simp [Told.past]; omega
/-- what was written is read as the same steps -/
theorem query_back {l : List StepD} (h : rightL l = true) (hl : (queryT l).length ≤ 200) : queryL (queryT l) = (l, 0, 0) := by
  unfold rightL at h
  simp only [Bool.and_eq_true, decide_eq_true_eq, List.all_eq_true] at h
  unfold queryL
  rw [if_neg (by omega), qall_back l [] (by intro e; subst e; simp at h) h.1 (by simpa using h.2.2)]
  simp
theorem query_long {l : List UInt8} (h : 200 < l.length) : queryL l = ([], 0, 71) := by unfold queryL; rw [if_pos h]
end Go.Proofs.YtpfhdklbhhpbcaaDoor

/-
  The plain law: what was read is a query; a query behind another. No program in sight.
-/
namespace Go.Proofs.YtpfhdklbhhpbcaaDoor

/-! ## What was read may be -/
theorem qname_right {l s : List UInt8} {n : Nat} (h : qname l = .ok s n) : nameL s = true ∧ s = l.take n ∧ n = partN l := by
  unfold qname at h
  split at h
  · cases h
  · rename_i hn
    injection h with h1 h2
    subst h1; subst h2
    exact ⟨by simpa using hn, rfl, rfl⟩
theorem qvalue_right {l s : List UInt8} {n : Nat} (h : qvalue l = .ok s n) : 0 ≤ countL s := by
  unfold qvalue at h
  split at h
  · cases h
  simp only at h
  split at h
  · cases h
  split at h
  · cases h
  · rename_i hu
    injection h with h1 _
    subst h1
    have hu0 : (undoL true ((l.drop 1).takeWhile (· != 34))).2.2 = 0 := Decidable.of_not_not hu
    obtain ⟨cs, hcs⟩ := undo_chars true _ _ (Nat.le_refl _) hu0
    unfold countL
    rw [hcs]; simp
theorem numQ_pos : ∀ (d : List UInt8) (n : Int), (∀ b ∈ d, digB b = true) → 1 ≤ n → 1 ≤ numQ n d
  | [], n, _, h => h
  | b :: d, n, hd, h => by
    have hb := hd b (by simp)
    unfold digB at hb
    have := of_decide_eq_true hb
    exact numQ_pos d _ (fun x hx => hd x (by simp [hx])) (by omega)
theorem qnumber_right {l : List UInt8} {v : Int} {n : Nat} (h : qnumber l = .ok v n) : 1 ≤ v ∧ v ≤ 9999 := by
  unfold qnumber at h
  simp only at h
  split at h
  · cases h
  · rename_i hh
    injection h with h1 _
    subst h1
    refine ⟨?_, by omega⟩
    have hall : ∀ b ∈ l.takeWhile digB, digB b = true := fun b hb => by
      have := List.all_takeWhile (l := l) (p := digB)
      exact List.all_eq_true.1 this b hb
    cases hd : l.takeWhile digB with
    | nil => exact absurd (.inl hd) hh
    | cons b d =>
      rw [hd] at hall
      have hb := hall b (by simp)
      unfold digB at hb
      have hb := of_decide_eq_true hb
      have hl : ∃ t, l = b :: t := by
        cases l with
        | nil => cases hd
        | cons x t =>
          rw [List.takeWhile_cons] at hd
          split at hd
          · injection hd with h1 _; exact ⟨t, by rw [h1]⟩
          · cases hd
      obtain ⟨t, ht⟩ := hl
      have hb48 : b.toNat ≠ 48 := fun e => hh (.inr (.inl (by
        rw [ht]
        have : b = 48 := UInt8.toNat.inj e
        rw [this]; exact pre_same [48] t)))
      exact numQ_pos d _ (fun x hx => hall x (by simp [hx])) (by omega)
theorem qattr_right {l : List UInt8} {p : PredD} {n : Nat} (h : qattr l = .ok p n) : predB p = true := by
  unfold qattr at h
  split at h
  · cases h
  rename_i s m hn
  obtain ⟨h1, _⟩ := qname_right hn
  split at h
  · injection h with h _
    subst h
    unfold predB
    simp [h1]
  · split at h
    · cases h
    rename_i v k hv
    have h2 := qvalue_right hv
    injection h with h _
    subst h
    unfold predB
    simp [h1, h2]
theorem past_ok {α : Type} {x : Told α} {k n : Nat} {v : α} (h : x.past k = .ok v n) : ∃ m, x = .ok v m ∧ n = k + m := by
  cases x with
  | bad j e => cases h
  | ok y m => injection h with h1 h2; exact ⟨m, by rw [h1], h2.symm⟩
theorem qpred_right {l : List UInt8} {p : PredD} {n : Nat} (h : qpred l = .ok p n) : predB p = true := by
  unfold qpred at h
  split at h
  · obtain ⟨m, h1, _⟩ := past_ok h
    exact qattr_right h1
  split at h
  · injection h with h _; subst h; rfl
  split at h
  · split at h
    · cases h
    split at h
    · cases h
    rename_i v k hv
    have h2 := qvalue_right hv
    injection h with h _
    subst h
    unfold predB
    simp [h2]
  · split at h
    · cases h
    rename_i v k hv
    obtain ⟨h1, h2⟩ := qnumber_right hv
    injection h with h _
    subst h
    unfold predB
    simp [h1, h2]
theorem qpredsF_right : ∀ (f : Nat) (l : List UInt8) (ps : List PredD) (qs : List PredD) (n : Nat), qpredsF f l ps = .ok qs n → (∀ p ∈ ps, predB p = true) → ps.length ≤ 5 → (∀ p ∈ qs, predB p = true) ∧ qs.length ≤ 5
  | 0, _, _, _, _, h, _, _ => by cases h
  | f + 1, l, ps, qs, n, h, hp, hl => by
    rw [qpredsF] at h
    split at h
    · injection h with h _; subst h; exact ⟨hp, hl⟩
    split at h
    · cases h
    split at h
    · cases h
    rename_i p k hq
    split at h
    · cases h
    obtain ⟨m, h1, _⟩ := past_ok h
    refine qpredsF_right f _ _ _ _ h1 (fun x hx => ?_) (by simp; omega)
    rcases List.mem_append.1 hx with hx | hx
    · exact hp x hx
    · simp at hx; subst hx; exact qpred_right hq
theorem qtest_right {l : List UInt8} {t : Int × List UInt8} {n : Nat} (h : qtest l = .ok t n) : 1 ≤ t.1 ∧ t.1 ≤ 4 ∧ (if t.1 = 1 then nameL t.2 = true else t.2 = []) := by
  unfold qtest at h
  split at h
  · injection h with h _; subst h; exact ⟨by decide, by decide, rfl⟩
  split at h
  · injection h with h _; subst h; exact ⟨by decide, by decide, rfl⟩
  split at h
  · injection h with h _; subst h; exact ⟨by decide, by decide, rfl⟩
  split at h
  · cases h
  rename_i s m hn
  injection h with h _
  subst h
  exact ⟨Int.le_refl 1, by show (1 : Int) ≤ 4; decide, (qname_right hn).1⟩
theorem qstep_right {l : List UInt8} {s : StepD} {n : Nat} (h : qstep l = .ok s n) : stepB s = true := by
  unfold qstep at h
  split at h
  · injection h with h _; subst h; rfl
  split at h
  · injection h with h _; subst h; rfl
  simp only at h
  split at h
  · cases h
  rename_i t m ht
  split at h
  · cases h
  rename_i ps k hps
  injection h with h _
  subst h
  obtain ⟨t1, t4, hn⟩ := qtest_right ht
  obtain ⟨p1, p2⟩ := qpredsF_right _ _ _ _ _ hps (fun _ h => by cases h) (by simp)
  have hx : 1 ≤ (if axisN l = 0 then (1 : Int) else (axisN l : Int)) ∧ (if axisN l = 0 then (1 : Int) else (axisN l : Int)) ≤ 8 := by
    rcases axisF_pre 8 1 l with h | ⟨_, h2, h3⟩
    · have h' : axisN l = 0 := h
      rw [h']; simp
    · have h2' : 1 ≤ axisN l := h2
      have h3' : axisN l < 1 + 8 := h3
      rw [if_neg (by omega)]; omega
  unfold stepB
  simp only [Bool.and_eq_true, decide_eq_true_eq, List.all_eq_true]
  refine ⟨⟨⟨⟨hx, t1, t4⟩, ?_⟩, p2⟩, p1⟩
  split at hn
  · rename_i h; rw [if_pos h]; exact hn
  · rename_i h; rw [if_neg h]; simpa using hn
theorem qone_parts {l : List UInt8} {ls ls' : List StepD} {n : Nat} (h : qone l ls = .ok ls' n) : ∃ (ms : List StepD) (s : StepD) (k m : Nat), ls' = ms ++ [s] ∧ ms.length < 20 ∧ qstep (l.drop k) = .ok s m ∧ (ms = ls ∨ ms = ls ++ [⟨3, 4, [], []⟩]) := by
  unfold qone at h
  split at h
  · cases h
  simp only at h
  by_cases h2 : pre [47] (l.drop 1) = true
  · simp only [h2, true_and, if_true] at h
    split at h
    · cases h
    split at h
    · cases h
    rename_i h21
    cases hs : qstep (l.drop 2) with
    | bad j e => rw [hs] at h; cases h
    | ok s m =>
      rw [hs] at h
      injection h with h1 _
      exact ⟨_, s, 2, m, h1.symm, by omega, hs, .inr rfl⟩
  · have h3 : pre [47] (l.drop 1) = false := by simpa using h2
    simp only [h3, Bool.false_eq_true, false_and, if_false] at h
    split at h
    · cases h
    rename_i h21
    cases hs : qstep (l.drop 1) with
    | bad j e => rw [hs] at h; cases h
    | ok s m =>
      rw [hs] at h
      injection h with h1 _
      exact ⟨_, s, 1, m, h1.symm, by omega, hs, .inl rfl⟩
theorem qone_right {l : List UInt8} {ls ls' : List StepD} {n : Nat} (h : qone l ls = .ok ls' n) (hr : ∀ s ∈ ls, stepB s = true) : (∀ s ∈ ls', stepB s = true) ∧ 1 ≤ ls'.length ∧ ls'.length ≤ 20 := by
  obtain ⟨ms, s, k, m, rfl, hl, hs, hm⟩ := qone_parts h
  refine ⟨fun x hx => ?_, by simp, by simp only [List.length_append, List.length_singleton]; omega⟩
  rcases List.mem_append.1 hx with hx | hx
  · rcases hm with rfl | rfl
    · exact hr x hx
    · rcases List.mem_append.1 hx with hx | hx
      · exact hr x hx
      · simp at hx; subst hx; rfl
  · simp at hx; subst hx; exact qstep_right hs
theorem qallF_right : ∀ (f : Nat) (l : List UInt8) (ls ls' : List StepD) (n : Nat), qallF f l ls = .ok ls' n → (∀ s ∈ ls, stepB s = true) → (∀ s ∈ ls', stepB s = true) ∧ 1 ≤ ls'.length ∧ ls'.length ≤ 20
  | 0, _, _, _, _, h, _ => by cases h
  | f + 1, l, ls, ls', n, h, hr => by
    rw [qallF] at h
    cases hq : qone l ls with
    | bad k e => rw [hq] at h; cases h
    | ok ms k =>
      rw [hq] at h
      simp only at h
      have h1 := qone_right hq hr
      split at h
      · injection h with h _; subst h; exact h1
      · obtain ⟨m, h2, _⟩ := past_ok h
        exact qallF_right f _ _ _ _ h2 h1.1
/-- what was read may be -/
theorem query_right {l : List UInt8} (h : (queryL l).2.2 = 0) : rightL (queryL l).1 = true ∧ (queryL l).2.1 = 0 := by
  unfold queryL at h ⊢
  split at h
  · cases h
  rename_i hl
  rw [if_neg hl]
  cases hq : qall l [] with
  | bad k e =>
    rw [hq] at h
    have hw := qallF_within (l.length + 1) l []
    have : qallF (l.length + 1) l [] = .bad k e := hq
    rw [this] at hw
    exact absurd h hw.2
  | ok ls n =>
    obtain ⟨h1, h2, h3⟩ := qallF_right _ _ _ _ _ hq (fun _ h => by cases h)
    refine ⟨?_, rfl⟩
    unfold rightL
    simp only [Bool.and_eq_true, decide_eq_true_eq, List.all_eq_true]
    exact ⟨h1, h2, h3⟩
theorem query_none {l : List UInt8} (h : (queryL l).2.2 ≠ 0) : (queryL l).1 = [] := by
  unfold queryL at h ⊢
  split at h
  · rename_i hl; rw [if_pos hl]
  rename_i hl
  rw [if_neg hl]
  cases hq : qall l [] with
  | bad k e => rfl
  | ok ls n => rw [hq] at h; exact absurd rfl h

/-! ## One query behind another -/
theorem next_slash {l u : List UInt8} (h : l ≠ []) : nextL (l ++ 47 :: u) = nextL l := by
  cases l with
  | nil => exact absurd rfl h
  | cons b t =>
    rw [List.cons_append]
    simp only [nextL]
    by_cases h0 : headN b.toNat = 0
    · rw [if_pos h0, if_pos h0]
    · rw [if_neg h0, if_neg h0]
      by_cases hlt : t.length + 1 < headN b.toNat
      · rw [if_pos hlt]
        split
        · rfl
        · have hc : ((t ++ 47 :: u).take (headN b.toNat - 1)).all contB = false := by
            rw [List.all_eq_false]
            refine ⟨47, ?_, by decide⟩
            refine List.mem_of_getElem? (i := t.length) ?_
            rw [List.getElem?_take_of_lt (by omega), List.getElem?_append_right (Nat.le_refl _)]
            simp
          rw [hc]; rfl
      · rw [if_neg hlt, if_neg (by simp; omega), List.take_append_of_le_length (by omega)]
theorem part_slash (u : List UInt8) : ∀ (k : Nat) (l : List UInt8), l.length ≤ k → partN (l ++ 47 :: u) = partN l
  | k, [], _ => by rw [List.nil_append, part_stop (stop_lit (.inr (.inr (.inl rfl))))]; rfl
  | 0, b :: t, h => by simp at h
  | k + 1, b :: t, h => by
    have hn := next_slash (l := b :: t) (u := u) (by simp)
    by_cases hs : (nextL (b :: t)).2 = 0 ∨ partB (nextL (b :: t)).1 = false
    · rw [partN_none hs, partN_none (by rw [hn]; exact hs)]
    · have hle := (nextL_le (b :: t)).1
      rw [partN_step hs, partN_step (by rw [hn]; exact hs), hn, List.drop_append_of_le_length hle, part_slash u k _ (by rw [List.length_drop]; simp at h ⊢; omega)]
theorem qname_slash {l u : List UInt8} : qname (l ++ 47 :: u) = qname l := by
  unfold qname
  rw [part_slash u _ l (Nat.le_refl _), List.take_append_of_le_length (partN_len l)]
theorem pre_slash {p l u : List UInt8} (h : ∀ b ∈ p, b ≠ 47) : pre p (l ++ 47 :: u) = pre p l := by
  rcases Nat.lt_or_ge l.length p.length with hl | hl
  · have h1 : pre p l = false := by
      cases hp : pre p l with
      | false => rfl
      | true => have := pre_len hp; omega
    rw [h1]
    cases hp : pre p (l ++ 47 :: u) with
    | false => rfl
    | true =>
      exfalso
      simp only [pre, beq_iff_eq] at hp
      have : p[l.length]? = some 47 := by
        rw [← hp, List.getElem?_take_of_lt hl, List.getElem?_append_right (Nat.le_refl _)]
        simp
      exact h 47 (List.mem_of_getElem? this) rfl
  · exact pre_more hl
theorem qvalue_slash {l u v : List UInt8} {n : Nat} (h : qvalue l = .ok v n) : qvalue (l ++ 47 :: u) = .ok v n := by
  unfold qvalue at h ⊢
  rw [pre_slash (by decide)]
  split at h
  · cases h
  rename_i hp
  have hp1 := pre_len (p := [34]) (l := l) (by simpa using hp)
  simp at hp1
  rw [if_neg hp]
  simp only at h ⊢
  split at h
  · cases h
  rename_i hne
  have h1 := takeWhile_len (· != 34) (l.drop 1)
  rw [List.drop_append_of_le_length hp1, takeWhile_more _ _ _ (by omega), if_neg (by rw [List.length_append]; omega)]
  exact h
theorem qnumber_slash {l u : List UInt8} : qnumber (l ++ 47 :: u) = qnumber l := by
  unfold qnumber
  rw [pre_slash (by decide), takeWhile_stop _ _ _ (fun x t e => by injection e with e _; subst e; decide)]
theorem drop_slash {l u : List UInt8} {n : Nat} (h : n ≤ l.length) : (l ++ 47 :: u).drop n = l.drop n ++ 47 :: u := List.drop_append_of_le_length h
theorem qattr_slash {l u : List UInt8} {p : PredD} {n : Nat} (h : qattr l = .ok p n) : qattr (l ++ 47 :: u) = .ok p n := by
  have hw := qname_within l
  unfold qattr at h ⊢
  rw [qname_slash]
  cases hn : qname l with
  | bad k e => rw [hn] at h; cases h
  | ok s m =>
    rw [hn] at h hw
    simp only at h ⊢
    rw [drop_slash hw.2, pre_slash (by decide)]
    by_cases hp : pre [61] (l.drop m) = false
    · rw [if_pos hp] at h ⊢; exact h
    · rw [if_neg hp] at h ⊢
      have hp1 := pre_at hw.2 (p := [61]) (by simpa using hp)
      simp at hp1
      rw [drop_slash hp1]
      cases hv : qvalue (l.drop (m + 1)) with
      | bad k e => rw [hv] at h; cases h
      | ok v k => rw [hv] at h; rw [qvalue_slash hv]; exact h
theorem qpred_slash {l u : List UInt8} {p : PredD} {n : Nat} (h : qpred l = .ok p n) : qpred (l ++ 47 :: u) = .ok p n := by
  unfold qpred at h ⊢
  rw [pre_slash (by decide), pre_slash (by decide), pre_slash (by decide)]
  split at h
  · rename_i hp
    have hp1 := pre_len hp
    simp at hp1
    rw [if_pos hp, drop_slash hp1]
    obtain ⟨m, h1, rfl⟩ := past_ok h
    rw [qattr_slash h1]; rfl
  rename_i hp
  rw [if_neg hp]
  split at h
  · rename_i hp'; rw [if_pos hp']; exact h
  rename_i hp'
  rw [if_neg hp']
  split at h
  · rename_i hp2
    have hl := pre_len hp2
    simp [tText] at hl
    rw [if_pos hp2, drop_slash hl, pre_slash (by decide)]
    split at h
    · cases h
    rename_i hp3
    have hl3 := pre_at hl (p := [61]) (by simpa using hp3)
    simp at hl3
    rw [if_neg hp3, drop_slash hl3]
    cases hv : qvalue (l.drop 7) with
    | bad k e => rw [hv] at h; cases h
    | ok v k => rw [hv] at h; rw [qvalue_slash hv]; exact h
  · rename_i hp2
    rw [if_neg hp2, qnumber_slash]
    exact h
theorem qpredsF_slash (u : List UInt8) : ∀ (f g : Nat) (l : List UInt8) (ps qs : List PredD) (n : Nat), f ≤ g → qpredsF f l ps = .ok qs n → qpredsF g (l ++ 47 :: u) ps = .ok qs n
  | 0, _, _, _, _, _, _, h => by cases h
  | f + 1, 0, _, _, _, _, h, _ => by omega
  | f + 1, g + 1, l, ps, qs, n, hfg, h => by
    rw [qpredsF] at h ⊢
    rw [pre_slash (by decide)]
    split at h
    · rename_i hp; rw [if_pos hp]; exact h
    rename_i hp
    have hp1 := pre_len (p := [91]) (l := l) (by simpa using hp)
    simp at hp1
    rw [if_neg hp]
    split at h
    · cases h
    rename_i h5
    rw [if_neg h5, drop_slash hp1]
    have hw := qpred_within (l.drop 1)
    cases hq : qpred (l.drop 1) with
    | bad k e => rw [hq] at h; cases h
    | ok p m =>
      rw [hq] at h hw
      rw [qpred_slash hq]
      simp only at h ⊢
      rw [List.length_drop] at hw
      obtain ⟨w1, w2⟩ := hw
      rw [drop_slash (by omega), pre_slash (by decide)]
      split at h
      · cases h
      rename_i hc
      have hc1 := pre_at (k := 1 + m) (p := [93]) (l := l) (by omega) (by simpa using hc)
      simp at hc1
      rw [if_neg hc, drop_slash (by omega)]
      obtain ⟨k, h1, rfl⟩ := past_ok h
      rw [qpredsF_slash u f g _ _ _ _ (by omega) h1]; rfl
theorem qpreds_slash {l u : List UInt8} {ps qs : List PredD} {n : Nat} (h : qpreds l ps = .ok qs n) : qpreds (l ++ 47 :: u) ps = .ok qs n := qpredsF_slash u _ _ _ _ _ _ (by simp) h
theorem qtest_slash {l u : List UInt8} {t : Int × List UInt8} {n : Nat} (h : qtest l = .ok t n) : qtest (l ++ 47 :: u) = .ok t n := by
  unfold qtest at h ⊢
  rw [pre_slash (by decide), pre_slash (by decide), pre_slash (by decide), qname_slash]
  exact h
theorem axisT_no47 (k : Nat) : ∀ b ∈ axisT k, b ≠ 47 := by
  match k with
  | 0 => exact fun _ h => by cases h
  | 1 => decide
  | 2 => decide
  | 3 => decide
  | 4 => decide
  | 5 => decide
  | 6 => decide
  | 7 => decide
  | 8 => decide
  | n + 9 => exact fun _ h => by cases h
theorem axisF_slash (l u : List UInt8) : ∀ (f k : Nat), axisF f k (l ++ 47 :: u) = axisF f k l
  | 0, _ => rfl
  | f + 1, k => by rw [axisF, axisF, pre_slash (axisT_no47 k), axisF_slash l u f (k + 1)]
theorem qstep_slash {l u : List UInt8} {s : StepD} {n : Nat} (h : qstep l = .ok s n) : qstep (l ++ 47 :: u) = .ok s n := by
  unfold qstep at h ⊢
  rw [pre_slash (by decide), pre_slash (by decide)]
  split at h
  · rename_i hp; rw [if_pos hp]; exact h
  rename_i hp
  rw [if_neg hp]
  split at h
  · rename_i hp'; rw [if_pos hp']; exact h
  rename_i hp'
  rw [if_neg hp']
  have hx : axisN (l ++ 47 :: u) = axisN l := axisF_slash l u 8 1
  have hxl := axisN_len l
  simp only at h ⊢
  rw [hx, drop_slash hxl]
  have hw := qtest_within (l.drop (axisT (axisN l)).length)
  rw [List.length_drop] at hw
  cases ht : qtest (l.drop (axisT (axisN l)).length) with
  | bad k e => rw [ht] at h; cases h
  | ok t m =>
    rw [ht] at h hw
    obtain ⟨w1, w2⟩ := hw
    rw [qtest_slash ht]
    simp only at h ⊢
    rw [drop_slash (by omega)]
    cases hq : qpreds (l.drop ((axisT (axisN l)).length + m)) [] with
    | bad k e => rw [hq] at h; cases h
    | ok ps k => rw [hq] at h; rw [qpreds_slash hq]; exact h
theorem qstep_nil : ∃ k e, qstep [] = .bad k e := ⟨0, 70, rfl⟩
theorem qone_slash {l u : List UInt8} {ls ls' : List StepD} {n : Nat} (h : qone l ls = .ok ls' n) : qone (l ++ 47 :: u) ls = .ok ls' n := by
  unfold qone at h
  split at h
  · cases h
  rename_i hp
  have hp' : pre [47] l = true := by simpa using hp
  obtain ⟨t, rfl⟩ := pre_cons hp'
  cases t with
  | nil =>
    exfalso
    simp only [show pre [47] (([47] : List UInt8).drop 1) = false from rfl, Bool.false_eq_true, false_and, if_false] at h
    split at h
    · cases h
    · rw [show ([47] : List UInt8).drop 1 = [] from rfl, show qstep [] = .bad 0 70 from rfl] at h; cases h
  | cons c t =>
    have e : (47 :: c :: t ++ 47 :: u).drop 1 = c :: (t ++ 47 :: u) := rfl
    have e0 : (47 :: c :: t).drop 1 = c :: t := rfl
    have e2 : (47 :: c :: t ++ 47 :: u).drop 2 = t ++ 47 :: u := rfl
    have e02 : (47 :: c :: t).drop 2 = t := rfl
    unfold qone
    rw [if_neg (by rw [show pre [47] (47 :: c :: t ++ 47 :: u) = true from pre_same [47] _]; decide)]
    have hc : pre [47] (c :: (t ++ 47 :: u)) = pre [47] (c :: t) := by simp [pre]
    by_cases h2 : pre [47] (c :: t) = true
    · simp only [e0, h2, true_and, if_true, e02] at h
      simp only [e, hc, h2, true_and, if_true, e2]
      split at h
      · cases h
      rename_i h20
      rw [if_neg h20]
      split at h
      · cases h
      rename_i h21
      rw [if_neg h21]
      cases hs : qstep t with
      | bad j e => rw [hs] at h; cases h
      | ok s m => rw [hs] at h; rw [qstep_slash hs]; exact h
    · have h3 : pre [47] (c :: t) = false := by simpa using h2
      simp only [e0, h3, Bool.false_eq_true, false_and, if_false] at h
      simp only [e, hc, h3, Bool.false_eq_true, false_and, if_false]
      split at h
      · cases h
      rename_i h21
      rw [if_neg h21]
      cases hs : qstep (c :: t) with
      | bad j e => rw [hs] at h; cases h
      | ok s m =>
        rw [hs] at h
        have := qstep_slash (u := u) hs
        rw [List.cons_append] at this
        rw [this]; exact h
theorem qallF_slash (u : List UInt8) : ∀ (f : Nat) (l : List UInt8) (ls ls' : List StepD) (n : Nat), qallF f l ls = .ok ls' n → n = l.length ∧ qall (l ++ 47 :: u) ls = (qall (47 :: u) ls').past n
  | 0, _, _, _, _, h => by cases h
  | f + 1, l, ls, ls', n, h => by
    rw [qallF] at h
    have hw := qone_within l ls
    cases hq : qone l ls with
    | bad k e => rw [hq] at h; cases h
    | ok ms k =>
      rw [hq] at h hw
      obtain ⟨w1, w2⟩ := hw
      simp only at h
      have ho := qone_slash (u := u) hq
      split at h
      · rename_i hd
        injection h with h1 h2
        subst h1; subst h2
        have hk : k = l.length := by
          have := congrArg List.length hd
          rw [List.length_drop] at this
          simp at this; omega
        refine ⟨hk, ?_⟩
        have hdd : (l ++ 47 :: u).drop k = 47 :: u := by rw [hk]; exact List.drop_left
        rw [qall_step ho (by rw [hdd]; simp), hdd]
      · rename_i hd
        obtain ⟨m, h1, rfl⟩ := past_ok h
        obtain ⟨h2, h3⟩ := qallF_slash u f _ _ _ _ h1
        rw [List.length_drop] at h2
        refine ⟨by omega, ?_⟩
        rw [qall_step ho (by rw [drop_slash w2]; simp), drop_slash w2, h3, Told.past_past]

/-- the steps so far are no matter but for their number -/
theorem qone_shift {l : List UInt8} {ms ms' : List StepD} {n : Nat} (ls : List StepD) (h : qone l ms = .ok ms' n) :
    (ls.length + ms'.length ≤ 20 → qone l (ls ++ ms) = .ok (ls ++ ms') n) ∧ (20 < ls.length + ms'.length → ∃ k, qone l (ls ++ ms) = .bad k 70) := by
  unfold qone at h ⊢
  split at h
  · cases h
  rename_i hp
  simp only at h ⊢
  by_cases h2 : pre [47] (l.drop 1) = true
  · simp only [h2, true_and, if_true] at h ⊢
    split at h
    · cases h
    rename_i h20
    split at h
    · cases h
    rename_i h21
    cases hs : qstep (l.drop 2) with
    | bad j e => rw [hs] at h; cases h
    | ok s m =>
      rw [hs] at h
      injection h with h1 hn
      subst h1; subst hn
      simp only [List.length_append, List.length_cons, List.length_nil, List.append_assoc] at h20 h21 ⊢
      refine ⟨fun hle => ?_, fun hgt => ?_⟩
      · rw [if_neg hp, if_neg (by omega), if_neg (by omega)]
      · rw [if_neg hp]
        by_cases hq : 20 ≤ ls.length + ms.length
        · exact ⟨0, by rw [if_pos hq]⟩
        · exact ⟨0, by rw [if_neg hq, if_pos (by omega)]⟩
  · have h3 : pre [47] (l.drop 1) = false := by simpa using h2
    simp only [h3, Bool.false_eq_true, false_and, if_false] at h ⊢
    split at h
    · cases h
    rename_i h21
    cases hs : qstep (l.drop 1) with
    | bad j e => rw [hs] at h; cases h
    | ok s m =>
      rw [hs] at h
      injection h with h1 hn
      subst h1; subst hn
      simp only [List.length_append, List.length_cons, List.length_nil, List.append_assoc] at h21 ⊢
      refine ⟨fun hle => ?_, fun hgt => ?_⟩
      · rw [if_neg hp, if_neg (by omega)]
      · exact ⟨0, by rw [if_neg hp, if_pos (by omega)]⟩
theorem qone_more {l : List UInt8} {ms ms' : List StepD} {n : Nat} (h : qone l ms = .ok ms' n) : ms.length ≤ ms'.length := by
  obtain ⟨xs, s, k, m, rfl, _, _, hx⟩ := qone_parts h
  rcases hx with rfl | rfl <;> simp
theorem qallF_many : ∀ (f : Nat) (l : List UInt8) (ms ms' : List StepD) (n : Nat), qallF f l ms = .ok ms' n → ms.length ≤ ms'.length
  | 0, _, _, _, _, h => by cases h
  | f + 1, l, ms, ms', n, h => by
    rw [qallF] at h
    cases hq : qone l ms with
    | bad k e => rw [hq] at h; cases h
    | ok xs k =>
      rw [hq] at h
      simp only at h
      have h1 := qone_more hq
      split at h
      · injection h with h _; subst h; exact h1
      · obtain ⟨m, h2, _⟩ := past_ok h
        exact Nat.le_trans h1 (qallF_many f _ _ _ _ h2)
theorem qallF_shift (ls : List StepD) : ∀ (f : Nat) (l : List UInt8) (ms ms' : List StepD) (n : Nat), l.length < f → qallF f l ms = .ok ms' n →
    (ls.length + ms'.length ≤ 20 → qall l (ls ++ ms) = .ok (ls ++ ms') n) ∧ (20 < ls.length + ms'.length → ∃ k, qall l (ls ++ ms) = .bad k 70)
  | 0, _, _, _, _, _, h => by cases h
  | f + 1, l, ms, ms', n, hf, h => by
    rw [qallF] at h
    have hw := qone_within l ms
    cases hq : qone l ms with
    | bad k e => rw [hq] at h; cases h
    | ok xs k =>
      rw [hq] at h hw
      obtain ⟨w1, w2⟩ := hw
      simp only at h
      obtain ⟨s1, s2⟩ := qone_shift ls hq
      split at h
      · rename_i hd
        injection h with h1 h2
        subst h1; subst h2
        refine ⟨fun hle => qall_end (s1 hle) hd, fun hgt => ?_⟩
        obtain ⟨j, hj⟩ := s2 hgt
        exact ⟨j, qall_bad hj⟩
      · rename_i hd
        obtain ⟨m, h1, rfl⟩ := past_ok h
        obtain ⟨t1, t2⟩ := qallF_shift ls f _ _ _ _ (by rw [List.length_drop]; omega) h1
        have hm := qallF_many _ _ _ _ _ h1
        refine ⟨fun hle => ?_, fun hgt => ?_⟩
        · rw [qall_step (s1 (by omega)) hd, t1 hle, Told.past]
        · rcases Nat.lt_or_ge 20 (ls.length + xs.length) with hx | hx
          · obtain ⟨j, hj⟩ := s2 hx
            exact ⟨j, qall_bad hj⟩
          · obtain ⟨j, hj⟩ := t2 hgt
            exact ⟨k + j, by rw [qall_step (s1 hx) hd, hj, Told.past]⟩
/-- two queries, one behind the other -/
theorem query_joins {a b : List UInt8} (ha : (queryL a).2.2 = 0) (hb : (queryL b).2.2 = 0) (hl : a.length + b.length ≤ 200) :
    (20 < (queryL a).1.length + (queryL b).1.length → (queryL (a ++ b)).2.2 = 70) ∧ ((queryL a).1.length + (queryL b).1.length ≤ 20 → queryL (a ++ b) = ((queryL a).1 ++ (queryL b).1, 0, 0)) := by
  have key : ∀ l : List UInt8, l.length ≤ 200 → (queryL l).2.2 = 0 → ∃ ls n, qall l [] = .ok ls n ∧ (queryL l).1 = ls := by
    intro l hl h
    unfold queryL at h ⊢
    rw [if_neg (by omega)] at h ⊢
    cases hq : qall l [] with
    | bad k e =>
      rw [hq] at h
      have hw := qallF_within (l.length + 1) l []
      have : qallF (l.length + 1) l [] = .bad k e := hq
      rw [this] at hw
      exact absurd h hw.2
    | ok ls n => exact ⟨ls, n, rfl, rfl⟩
  obtain ⟨ls, n, h1, e1⟩ := key a (by omega) ha
  obtain ⟨ms, m, h2, e2⟩ := key b (by omega) hb
  rw [e1, e2]
  -- the second one begins with a slash
  obtain ⟨u, rfl⟩ : ∃ u, b = 47 :: u := by
    cases hp : pre [47] b with
    | true => exact pre_cons hp
    | false =>
      exfalso
      have : qone b [] = .bad 0 70 := by unfold qone; rw [if_pos hp]
      rw [qall_bad this] at h2
      cases h2
  obtain ⟨_, h3⟩ := qallF_slash u _ _ _ _ _ h1
  obtain ⟨s1, s2⟩ := qallF_shift ls _ _ _ _ _ (Nat.lt_succ_self _) h2
  rw [List.append_nil] at s1 s2
  unfold queryL
  rw [if_neg (by rw [List.length_append]; omega), h3]
  refine ⟨fun hgt => ?_, fun hle => ?_⟩
  · obtain ⟨k, hk⟩ := s2 hgt
    rw [hk]; rfl
  · rw [s1 hle]; rfl
end Go.Proofs.YtpfhdklbhhpbcaaDoor
