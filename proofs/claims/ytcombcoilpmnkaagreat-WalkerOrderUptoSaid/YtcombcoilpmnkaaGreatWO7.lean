/-
  Texts of this claim, joined (by a program of the claim's author): GMovB, GRound, GItm, GGet, GOps, GOpsB, GOpsC, GRdF, GOpP, GDoes, GAlive, GFew, GIn.
-/
import Derived.Test.YtcombcoilpmnkaaGreatWO1
import Derived.Test.YtcombcoilpmnkaaGreatWO5
import Derived.Test.YtcombcoilpmnkaaGreatWO6
import Derived.Test.YtcombcoilpmnkaaGreatWO2
import Derived.Deep.RegionHeld
import Derived.Test.YtcombcoilpmnkaaGreatWO3
import Derived.Test.YtcombcoilpmnkaaGreatWO4
import Derived.Deep.Onto
namespace Go.Proofs.YtcombcoilpmnkaaGreat
set_option maxRecDepth 100000
set_option maxHeartbeats 16000000
section
open Go.RowKit Go.Shelf
attribute [local go_sem] Oper.semAt_some
def BoxI (W : World) (q : Nat) (ty : TypeId) (r : Int) : Prop := W.heap[q]? = some (.cells #[.int .i64 r] ty (0, 0))
def MovI (D N : Nat) (parent : Int) (xs : List (Int × Int)) (i : Nat) (Fq : Nat → Prop) (W' : World) : Prop :=
 (parent ∉ (xs.take i).map (·.1)) ∧ W'.heap[D]? = some (.cells #[.int .i64 (maxLv (xs.take i))] 3 (0, 0)) ∧ W'.heap[N + 1]? = some (.cells #[.int .i64 0] 38 (0, 0)) ∧ W'.heap[N]? = some (.cells #[.int .i64 parent] 3 (0, 0)) ∧ Fq D ∧ Fq (N + 1)
def MovX (N : Nat) (parent : Int) (xs : List (Int × Int)) (c : Code) (Fq : Nat → Prop) (W' : World) : Prop :=
 c = .ret ∧ (parent ∈ xs.map (·.1)) ∧ W'.heap[N + 1]? = some (.cells #[.int .i64 61] 38 (0, 0)) ∧ Fq (N + 1)
section
variable {w : World} {t mb : Nat} {y : Lay} {g : Int → Option Ent} {root next : Int} {n : Nat}
theorem zIk (h : TreeAt w t mb y g root next n) {id parent : Int} (at' : Int) (hw : wfI id) (hwp : wfI parent) {e p : Ent} (he : g id = some e) (hp : g parent = some p) (R : Ending → World → Prop)
  (hroot : id = root → ∀ w', Below w.heap.size w w' → R (.returned (.int .i64 62)) w') (hkind : id ≠ root → p.d.kind ≠ 1 → ∀ w', Below w.heap.size w w' → R (.returned (.int .i64 68)) w')
  (xs : List (Int × Int)) (hloop : id ≠ root → p.d.kind = 1 → parent ∈ xs.map (·.1) → ∀ w', Below w.heap.size w w' → R (.returned (.int .i64 61)) w') (_hxs : xs.length ≤ 1000000) (hlv : ∀ x ∈ xs, 0 ≤ x.2 ∧ x.2 ≤ 1000000) (hit : IterB t mb y g root next n id 0 xs)
  (hwf : ∀ id e, g id = some e → wfI id) (L : Nat) (hL : L ≤ 1000000) (hLev : Lev g L parent) (hkl : p.kids.length ≤ 1000000) (many : Int) (hmany : Hid ((p.kids.length : Int) - (if e.par = parent then 1 else 0) = many))
  (hplace : id ≠ root → p.d.kind = 1 → parent ∉ xs.map (·.1) → (at' < 0 ∨ many < at') → ∀ w', Below w.heap.size w w' → R (.returned (.int .i64 69)) w')
  (hdeep : id ≠ root → p.d.kind = 1 → parent ∉ xs.map (·.1) → 0 ≤ at' → at' ≤ many → 40 ≤ (L : Int) + 1 + maxLv xs → ∀ w', Below w.heap.size w w' → R (.returned (.int .i64 65)) w')
  (hyes : id ≠ root → p.d.kind = 1 → parent ∉ xs.map (·.1) → 0 ≤ at' → at' ≤ many → (L : Int) + 1 + maxLv xs < 40 → ∃ (pe : Ent) (k : Nat) (g1 : Int → Option Ent) (p1 e2 : Ent) (g2 : Int → Option Ent), g e.par = some pe ∧ pe.kids[k]? = some id ∧ (∀ j, j < k → pe.kids[j]? ≠ some id) ∧ pe.kids.length ≤ 1000000 ∧
   fset g e.par (some { pe with kids := pe.kids.eraseIdx k }) = g1 ∧ g1 parent = some p1 ∧ at'.toNat ≤ p1.kids.length ∧ p1.kids.length ≤ 1000000 ∧ fset g1 parent (some { p1 with kids := p1.kids.take at'.toNat ++ id :: p1.kids.drop at'.toNat }) = g2 ∧ g2 id = some e2 ∧
   ∀ w', TP t mb y g w (fset g2 id (some { e2 with par := parent })) root next n w' → R (.returned (.int .i64 0)) w') :
  Calls Tryz.prog 29 #[.pointer (some ⟨t, 0, none⟩), .int .i64 id, .int .i64 parent, .int .i64 at'] w R := by
 obtain ⟨W1, hW1⟩ : ∃ W1, Hid (W1 = (w.alloc (.cells #[.int .i64 parent] 3)).alloc (.cells #[.int .i64 0] 38)) := ⟨_, rfl⟩
 have hb1 : Below w.heap.size w W1 := by rw [hW1.out]; exact ((Below.refl _ w).alloc (Nat.le_refl _) _).alloc (by simp) _
 have hq1 : W1.heap[w.heap.size + 1]? = some (.cells #[.int .i64 0] 38 (0, 0)) := by
  rw [hW1.out]
  have := heap_alloc_new (w.alloc (.cells #[.int .i64 parent] 3)) (.cells #[.int .i64 0] 38)
  simpa using this
 have hr1 : W1.heap[w.heap.size]? = some (.cells #[.int .i64 parent] 3 (0, 0)) := by
  rw [hW1.out]
  exact (Below.heap_alloc _ _ _ (by simp)).trans (heap_alloc_new w _)
 have hz1 : W1.heap.size = w.heap.size + 2 := by rw [hW1.out]; simp
 have h1 := h.below hb1
 have c0 := h1.c0
 have hl := (h1.look_yes he hw).1
 have hl2 := fun (j : Nat) => ((h1.keep (w' := W1.drewN j) (fun _ _ => rfl)).look_yes hp hwp).1
 rw [hW1.out] at c0 hl hl2
 have HH := Lib.hid h
 have HE := Lib.hid he
 have HP := Lib.hid hp
 have HIT := Lib.hid hit
 have HLV := Lib.hid hlv
 have HROOT := Lib.hid hroot
 have HKIND := Lib.hid hkind
 have HLOOP := Lib.hid hloop
 have HZ1 := Lib.hid hz1
 have HPLACE := Lib.hid hplace
 have HDEEP := Lib.hid hdeep
 have HYES := Lib.hid hyes
 have HLEV := Lib.hid hLev
 have HWF := Lib.hid hwf
 clear h h1 he hp hit hlv hroot hkind hloop hz1 hplace hdeep hyes hLev hwf
 refine callsIn_wide.1 (callsIn_of_wp_marks (n := 0) Tryz.func29 rfl trivial ?_ rfl)
 simp only [Tryz.ntmps29, List.size_toArray, List.length_cons, List.length_nil, Nat.reduceAdd, Nat.reduceSub, Array.replicate_succ, Array.replicate_zero, List.push_toArray, List.append_toArray, List.nil_append, List.cons_append]
 gi_wp2
 refine wpIn_wide.2 ?_
 go_quiet (fail)
 rw [← hW1.out]
 obtain ⟨W2, hW2⟩ : ∃ W2, Hid (W1.drewN nq = W2) := ⟨_, rfl⟩
 rw [hW2.out]
 have hb2 : Below w.heap.size w W2 := by rw [← hW2.out]; exact ⟨hb1.os, hb1.tape, hb1.output, hb1.size, hb1.block⟩
 have hz2 : W2.heap.size = w.heap.size + 2 := by rw [← hW2.out]; exact HZ1.out
 have hq2 : W2.heap[w.heap.size + 1]? = some (.cells #[.int .i64 0] 38 (0, 0)) := by rw [← hW2.out]; exact hq1
 have hr2 : W2.heap[w.heap.size]? = some (.cells #[.int .i64 parent] 3 (0, 0)) := by rw [← hW2.out]; exact hr1
 obtain ⟨N, hN⟩ : ∃ N, Hid (w.heap.size = N) := ⟨_, rfl⟩
 have h2 := HH.out.below hb2
 have H2 := Lib.hid h2
 have HB2 := Lib.hid hb2
 have HQ2 := Lib.hid hq2
 have HR2 := Lib.hid hr2
 have HZ2 := Lib.hid hz2
 have fq := zAA hq2 0 _ rfl
 have ff := zAL hq2 0
 have c1 := h2.c1
 have c2 := h2.n2 HP.out
 clear c0 hl hl2 hb1 hq1 hr1 hb2 hz2 hq2 hr2 h2
 have fin : Hid (∀ (bs : List Nat) (V w' : World) (r : Int), Below w.heap.size w V → w.heap.size + 1 < V.heap.size → (∀ b ∈ bs, w.heap.size ≤ b) → Turn (fun b => b ∈ bs) (V.setCell ⟨w.heap.size + 1, 0, none⟩ (.int .i64 r)) w' → Below w.heap.size w w') := by
  intro bs V w' r hb hv hbs hw'
  refine ⟨hw'.os.trans hb.os, hw'.tape.trans hb.tape, hw'.output.trans hb.output, ?_, fun b hb' => ?_⟩
  ·have h2 := hw'.size
   have h3 := hb.size
   simp at h2
   omega
  ·exact (hw'.block b (by simp; have := hb.size; omega) (fun hm => by have := hbs b hm; omega)).trans ((Below.heap_setCell _ _ _ _ (by show b ≠ w.heap.size + 1; omega)).trans (hb.block b hb'))
 by_cases hir : id = root
 ·have hir' : (id == root) = true := by simpa using hir
  gi_wp2
  refine zAf (bs := []) (V := W2) HQ2.out (by simp) (by simp) rfl (fun w' hw' => HROOT.out hir _ (fin.out [] W2 w' _ HB2.out (by have := HZ2.out; omega) (by simp) hw'))
 ·have hir' : (id == root) = false := by simpa using hir
  by_cases hk : p.d.kind = 1
  ·rw [hk] at c2
   obtain ⟨W3, hW3⟩ : ∃ W3, Hid (W3 = W2.alloc (.cells #[.int .i64 0] 3)) := ⟨_, rfl⟩
   have hb3 : Below W2.heap.size W2 W3 := by rw [hW3.out]; exact (Below.refl _ W2).alloc (Nat.le_refl _) _
   have hd3 : W3.heap[W2.heap.size]? = some (.cells #[.int .i64 0] 3 (0, 0)) := by rw [hW3.out]; exact heap_alloc_new W2 _
   have HB3 := Lib.hid hb3
   have HD3 := Lib.hid hd3
   have HZ3 : Hid (W3.heap.size = W2.heap.size + 1) := by show _ = _; rw [hW3.out]; simp
   clear hb3 hd3
   gi_wp2
   rw [← hW3.out]
   refine ⟨trivial, rfl, ?_⟩
   refine (callsIn_wide.2 (zCP W3 t id 0)).mono ?_
   rintro e5 w4 ⟨rfl, hb4, hz4, k1, k2, k3⟩
   have h3 := H2.out.below HB3.out
   have hi4 := HIT.out w4 _ _ _ (h3.below hb4) k1 k2 k3
   have hd4 : w4.heap[W2.heap.size]? = some (.cells #[.int .i64 0] 3 (0, 0)) := (hb4.block _ (by have := HZ3.out; omega)).trans HD3.out
   have hq4 : w4.heap[w.heap.size + 1]? = some (.cells #[.int .i64 0] 38 (0, 0)) := (hb4.block _ (by have := HZ3.out; have := HZ2.out; omega)).trans ((HB3.out.block _ (by have := HZ2.out; omega)).trans HQ2.out)
   have hr4 : w4.heap[w.heap.size]? = some (.cells #[.int .i64 parent] 3 (0, 0)) := (hb4.block _ (by have := HZ3.out; have := HZ2.out; omega)).trans ((HB3.out.block _ (by have := HZ2.out; omega)).trans HR2.out)
   have hb24 : Below W2.heap.size W2 w4 := HB3.out.trans (hb4.mono (by have := HZ3.out; omega))
   have hb04 : Below w.heap.size w w4 := HB2.out.trans (hb24.mono (by have := HZ2.out; omega))
   have HI := Lib.hid hi4
   have HT4 := Lib.hid (h3.below hb4)
   have HD4 := Lib.hid hd4
   have HQ4 := Lib.hid hq4
   have HR4 := Lib.hid hr4
   have HB4 := Lib.hid hb04
   have HZ4 := Lib.hid hz4
   clear hi4 hd4 hq4 hr4 hb04 hb24 hb4 k1 k2 k3 h3 hz4
   obtain ⟨D, hD⟩ : ∃ D, Hid (W2.heap.size = D) := ⟨_, rfl⟩
   obtain ⟨Z, hZ⟩ : ∃ Z, Hid (W3.heap.size = Z) := ⟨_, rfl⟩
   rw [hD.out] at HD4
   rw [hN.out] at HQ4 HR4
   rw [hD.out, hZ.out, hN.out]
   rw [hZ.out] at HI
   have hnum : Hid (D = N + 2 ∧ Z = N + 3 ∧ w4.heap.size = N + 6) := by
    have a1 := HZ2.out; have a2 := HZ3.out; have a3 := HZ4.out
    have b1 := hD.out; have b2 := hZ.out; have b3 := hN.out
    exact ⟨by omega, by omega, by omega⟩
   clear fq ff c1 c2
   gi_wp2
   refine zBT (gf := 72) (lb := #[.pointer (some ⟨Z, 0, none⟩), .pointer (some ⟨Z + 1, 0, none⟩), .pointer (some ⟨Z + 2, 0, none⟩)]) rfl (enters_of Tryz.func72 (by kernel_rfl) rfl)
    HI.out (fun b hb => ⟨?dlt, rfl⟩) (Nat.le_refl _) (fun _ => rfl) (fun b => b = N + 1 ∨ b = D) (fun b hb => ⟨?clt, ?cnd⟩)
    (fun i Fq W' => MovI D N parent xs i Fq W')
    (fun c Fq W' => MovX N parent xs c Fq W')
    ?sI ?sX ⟨by simp, HD4.out, HQ4.out, HR4.out, .inr rfl, .inl rfl⟩ ?a1 ?assign ?body ?done ?stop
   case assign =>
    intro l' x W' K hK
    have HK := Lib.hid hK
    clear hK
    dsimp only [encV]
    gi_wp2
    exact HK.out
   case dlt =>
    obtain ⟨q1, q2, q3⟩ := hnum.out
    rcases hb with hb | rfl | rfl | rfl
    ·exact HT4.out.lt hb
    ·omega
    ·omega
    ·omega
   case clt => obtain ⟨q1, q2, q3⟩ := hnum.out; omega
   case cnd =>
    obtain ⟨q1, q2, q3⟩ := hnum.out
    rintro (hm | hm | hm | hm)
    ·have := HH.out.lt hm; have := hN.out; omega
    ·omega
    ·omega
    ·omega
   case sI =>
    obtain ⟨q1, q2, q3⟩ := hnum.out
    rintro i Fq A B ⟨a1, a2, a3, a4, a5, a6⟩ hk'
    exact ⟨a1, (hk'.block (Array.getElem?_eq_some_iff.1 a2).1 (.inr a5)).trans a2, (hk'.block (Array.getElem?_eq_some_iff.1 a3).1 (.inr a6)).trans a3, (hk'.block (Array.getElem?_eq_some_iff.1 a4).1 (.inl (by omega))).trans a4, a5, a6⟩
   case sX =>
    rintro c Fq A B ⟨a1, a2, a3, a6⟩ hk'
    exact ⟨a1, a2, (hk'.block (Array.getElem?_eq_some_iff.1 a3).1 (.inr a6)).trans a3, a6⟩
   case body =>
    rintro l' i ⟨xi, xl⟩ Fq W' hx ⟨a1, a2, a3, a4, a5, a6⟩ hW' hF
    obtain ⟨hl0, hl1⟩ := HLV.out _ (List.mem_of_getElem? hx)
    have fd := zAA a2 0 _ rfl
    have ffd := zAL a2 0
    have fq := zAA a3 0 _ rfl
    have ffq := zAL a3 0
    have fr := zAA a4 0 _ rfl
    dsimp only
    by_cases hxp : xi = parent
    ·have hxp' : (xi == parent) = true := by simpa using hxp
     have hmem : parent ∈ xs.map (·.1) := List.mem_map.2 ⟨_, List.mem_of_getElem? hx, hxp⟩
     have h61 : (W'.setCell ⟨N + 1, 0, none⟩ (.int .i64 61)).heap[N + 1]? = some (.cells #[.int .i64 61] 38 (0, 0)) := Lib.heap_setCell_same (i := 0) a3 _
     have HFIN : Hid (Left Fq W' (fun Fp V => MovX N parent xs .ret Fp V) (W'.setCell ⟨N + 1, 0, none⟩ (.int .i64 61))) :=
      ⟨Fq, ⟨⟨rfl, rfl, rfl, by simp, fun b _ hb => Below.heap_setCell _ _ _ _ (fun e' => hb (by rw [e']; exact a6))⟩, fun b hb => .inl hb⟩, fun b hb => by simp; exact hF b hb, rfl, hmem, h61, a6⟩
     clear hx a1 a2 a3 a4 a5 a6 hW' hF h61 hmem
     gi_wp2
     exact HFIN.out
    ·have hxp' : (xi == parent) = false := by simpa using hxp
     obtain ⟨M, hM⟩ : ∃ M, Hid (maxLv (xs.take i) = M) := ⟨_, rfl⟩
     have hmx : maxLv (xs.take (i + 1)) = max M xl := by rw [List.take_add_one, hx]; simp only [Option.toList_some]; rw [zIG, hM.out]
     rw [hM.out] at fd
     have hdn : (W'.setCell ⟨D, 0, none⟩ (.int .i64 (max M xl))).heap[D]? = some (.cells #[.int .i64 (max M xl)] 3 (0, 0)) := Lib.heap_setCell_same (i := 0) a2 _
     obtain ⟨n1, n2, n3⟩ := hnum.out
     have HFIN : Hid (Left Fq W' (fun Fp V => MovI D N parent xs (i + 1) Fp V) (W'.setCell ⟨D, 0, none⟩ (.int .i64 (max M xl)))) := by
      refine ⟨Fq, ⟨⟨rfl, rfl, rfl, by simp, fun b _ hb => Below.heap_setCell _ _ _ _ (fun e' => hb (by rw [e']; exact a5))⟩, fun b hb => .inl hb⟩, fun b hb => by simp; exact hF b hb, ?_, by rw [hmx]; exact hdn, (Below.heap_setCell _ _ _ _ (by show N + 1 ≠ D; omega)).trans a3, (Below.heap_setCell _ _ _ _ (by show N ≠ D; omega)).trans a4, a5, a6⟩
      rw [List.take_add_one, hx]
      simp only [Option.toList_some, List.map_append, List.mem_append, not_or]
      exact ⟨a1, by simp; exact fun h => hxp h.symm⟩
     clear hx a1 a2 a3 a4 a5 a6 hW' hF hmx hdn n1 n2 n3
     gi_wp2
     exact HFIN.out
   case stop =>
    rintro c W5 ⟨Fq, r1, r2, ⟨rfl, hmem, h61, hf6⟩, qn⟩ hK5
    have HR1 := Lib.hid r1
    have H61 := Lib.hid h61
    have HK5 := Lib.hid hK5
    clear r1 r2 h61 hf6 qn hK5
    gi_wp2
    refine zAH [w4.heap.size] W5 (by simp) (fun b hb => by simp at hb; subst hb; exact HK5.out) (fun w' hw' => ⟨_, zBO Tryz.results29 _ _ (N + 1) (.int .i64 61) _ rfl ?_ Tryz.underlying38 rfl, HLOOP.out hir hk hmem _ ?_⟩)
    ·obtain ⟨q1, q2, q3⟩ := hnum.out
     have h2 := (hw'.block (N + 1) (Array.getElem?_eq_some_iff.1 H61.out).1 (fun hm => by simp at hm; omega)).trans H61.out
     exact zAA h2 0 _ rfl
    ·obtain ⟨q1, q2, q3⟩ := hnum.out
     have hn := hN.out
     have h4 := HB4.out
     have h1 := HR1.out.1
     refine ⟨hw'.os.trans (h1.os.trans h4.os), hw'.tape.trans (h1.tape.trans h4.tape), hw'.output.trans (h1.output.trans h4.output), ?_, fun b hb => ?_⟩
     ·have := hw'.size; have := h1.size; omega
     ·exact (hw'.block b (Nat.lt_of_lt_of_le (show b < w4.heap.size by omega) h1.size) (fun hm => by simp at hm; omega)).trans ((h1.block b (by omega) (fun h => by omega)).trans (h4.block b hb))
   case done =>
    rintro W5 ⟨Fq, r1, r2, ⟨hmem, hdp, hq5, hr5, hf5, hf6⟩, qn⟩ hK5
    rw [List.take_length] at hmem hdp
    obtain ⟨q1, q2, q3⟩ := hnum.out
    have hn := hN.out
    have T5 : TreeAt W5 t mb y g root next n := HT4.out.keep fun b hb => r1.1.block b (HT4.out.lt hb) (fun h => by have := HH.out.lt hb; omega)
    have hb5 : Below w.heap.size w W5 := by
     have h4 := HB4.out
     have h1 := r1.1
     refine ⟨h1.os.trans h4.os, h1.tape.trans h4.tape, h1.output.trans h4.output, ?_, fun b hb => (h1.block b (by omega) (fun h => by omega)).trans (h4.block b hb)⟩
     have := h1.size; omega
    have hz5 : N + 7 ≤ W5.heap.size := by
     have := (Array.getElem?_eq_some_iff.1 hK5).1; omega
    obtain ⟨M, hM⟩ : ∃ M, Hid (maxLv xs = M) := ⟨_, rfl⟩
    have hM0 : 0 ≤ M := by rw [← hM.out]; exact zB0 xs
    have hM1 : M ≤ 1000000 := by
     rw [← hM.out]
     have : ∀ l : List (Int × Int), (∀ x ∈ l, 0 ≤ x.2 ∧ x.2 ≤ 1000000) → maxLv l ≤ 1000000 := by
      intro l
      induction l with
      | nil => intro _; simp [maxLv]
      | cons x l ih => intro h; have h1 := ih (fun z hz => h z (List.mem_cons_of_mem _ hz)); have h2 := h x List.mem_cons_self; simp only [maxLv]; omega
     exact this xs HLV.out
    rw [hM.out] at hdp
    have HT5 := Lib.hid T5
    have HB5 := Lib.hid hb5
    have HMEM := Lib.hid hmem
    have HDP := Lib.hid hdp
    have HQ5 := Lib.hid hq5
    have HR5 := Lib.hid hr5
    have HK5 := Lib.hid hK5
    have HZ5 := Lib.hid hz5
    have c7 := T5.n7 HP.out
    obtain ⟨A, c, hv, _⟩ := zAJ (T5.kid _ _ HP.out)
    rw [hv] at c7
    obtain ⟨m, hm⟩ : ∃ m, Hid (p.kids.length = m) := ⟨_, rfl⟩
    rw [hm.out] at c7 hkl
    have c1 := T5.n1 HE.out
    have fr := zAA hr5 0 _ rfl
    have c1d : ∀ j, (W5.drewN j).cell? ⟨y.nb id, 1, none⟩ = some (.int .i64 e.par) := fun j => c1
    have frd : ∀ j, (W5.drewN j).cell? ⟨N, 0, none⟩ = some (.int .i64 parent) := fun j => fr
    clear r1 r2 hmem hdp hq5 hr5 hf5 hf6 qn hK5 T5 hb5 hz5 q1 q2 q3 hv c1 hn
    dsimp only
    gi_wp2
    refine wpIn_wide.2 ?_
    go_quiet (fail)
    obtain ⟨W6, hW6⟩ : ∃ W6, Hid (W5.drewN nq = W6) := ⟨_, rfl⟩
    rw [hW6.out]
    have HT6 : Hid (TreeAt W6 t mb y g root next n) := by rw [← hW6.out]; exact HT5.out.keep fun _ _ => rfl
    have HB6 : Hid (Below w.heap.size w W6) := by
     have := HB5.out
     rw [← hW6.out]; exact ⟨this.os, this.tape, this.output, this.size, this.block⟩
    have HQ6 : Hid (W6.heap[N + 1]? = some (.cells #[.int .i64 0] 38 (0, 0))) := by rw [← hW6.out]; exact HQ5.out
    have HR6 : Hid (W6.heap[N]? = some (.cells #[.int .i64 parent] 3 (0, 0))) := by rw [← hW6.out]; exact HR5.out
    have HD6 : Hid (W6.heap[D]? = some (.cells #[.int .i64 M] 3 (0, 0))) := by rw [← hW6.out]; exact HDP.out
    have HK6 : Hid (W6.heap[w4.heap.size]? = some (.deferred (some []))) := by rw [← hW6.out]; exact HK5.out
    have HZ6 : Hid (N + 7 ≤ W6.heap.size) := by rw [← hW6.out]; exact HZ5.out
    have FINN : Hid (∀ (V w' : World) (r : Int), Below w.heap.size w V → N + 1 < V.heap.size → Turn (fun b => b ∈ [w4.heap.size]) (V.setCell ⟨N + 1, 0, none⟩ (.int .i64 r)) w' → Below w.heap.size w w') := by
     have e' := hN.out
     have e2 := hnum.out.2.2
     subst e'
     exact fun V w' r h1 h2 h3 => fin.out [w4.heap.size] V w' r h1 h2 (fun b hb => by simp at hb; omega) h3
    have MKS : Hid (∀ b ∈ [w4.heap.size], W6.heap[b]? = some (.deferred (some []))) := fun b hb => by simp at hb; subst hb; exact HK6.out
    have fq6 := zAA HQ6.out 0 _ rfl
    have ff6 := zAL HQ6.out 0
    have fr6 := zAA HR6.out 0 _ rfl
    have fd6 := zAA HD6.out 0 _ rfl
    have fr6d : ∀ j, (W6.drewN j).cell? ⟨N, 0, none⟩ = some (.int .i64 parent) := fun j => fr6
    have fd6d : ∀ j, (W6.drewN j).cell? ⟨D, 0, none⟩ = some (.int .i64 M) := fun j => fd6
    have hm0 : (m : Int) ≤ 1000000 := by omega
    clear c7 fr c1d frd hW6
    by_cases hep : e.par = parent
    ·have hep' : (e.par == parent) = true := by simpa using hep
     have hmy : (m : Int) - 1 = many := by have := hmany.out; rw [hm.out, if_pos hep] at this; exact this
     by_cases ha0 : at' < 0
     ·gi_wp2
      refine zAf (bs := [w4.heap.size]) (V := W6) HQ6.out (by simp) MKS.out rfl (fun w' hw' => HPLACE.out hir hk HMEM.out (.inl ha0) _ (FINN.out W6 w' _ HB6.out (by have := HZ6.out; omega) hw'))
     ·have ha0' : 0 ≤ at' := by omega
      by_cases ha1 : (m : Int) - 1 < at'
      ·gi_wp2
       refine zAf (bs := [w4.heap.size]) (V := W6) HQ6.out (by simp) MKS.out rfl (fun w' hw' => HPLACE.out hir hk HMEM.out (.inr (by omega)) _ (FINN.out W6 w' _ HB6.out (by have := HZ6.out; omega) hw'))
      ·have ha1' : at' ≤ (m : Int) - 1 := by omega
       gi_wp2
       refine wpIn_wide.2 ?_
       have lev : ∀ j, Calls Tryz.prog 48 #[.pointer (some ⟨t, 0, none⟩), .int .i64 parent] (W6.drewN j) fun e w' => e = .returned (.int .i64 (L : Int)) ∧ w' = W6.drewN j := fun j =>
        (zBy (HT6.out.keep (w' := W6.drewN j) fun _ _ => rfl) HWF.out L hL parent HLEV.out).mono fun _ _ h => ⟨h.1, h.2.symm⟩
       go_quiet (exact Calls.quiet_of_same (lev _))
       clear lev
       obtain ⟨W7, hW7⟩ : ∃ W7, Hid (W6.drewN nq = W7) := ⟨_, rfl⟩
       rw [hW7.out]
       have HT7 : Hid (TreeAt W7 t mb y g root next n) := by rw [← hW7.out]; exact HT6.out.keep fun _ _ => rfl
       have HB7 : Hid (Below w.heap.size w W7) := by
        have := HB6.out
        rw [← hW7.out]; exact ⟨this.os, this.tape, this.output, this.size, this.block⟩
       have HQ7 : Hid (W7.heap[N + 1]? = some (.cells #[.int .i64 0] 38 (0, 0))) := by rw [← hW7.out]; exact HQ6.out
       have HR7 : Hid (W7.heap[N]? = some (.cells #[.int .i64 parent] 3 (0, 0))) := by rw [← hW7.out]; exact HR6.out
       have HK7 : Hid (W7.heap[w4.heap.size]? = some (.deferred (some []))) := by rw [← hW7.out]; exact HK6.out
       have HZ7 : Hid (N + 7 ≤ W7.heap.size) := by rw [← hW7.out]; exact HZ6.out
       have MKS7 : Hid (∀ b ∈ [w4.heap.size], W7.heap[b]? = some (.deferred (some []))) := fun b hb => by simp at hb; subst hb; exact HK7.out
       have fq7 := zAA HQ7.out 0 _ rfl
       have ff7 := zAL HQ7.out 0
       clear fq6 ff6 fr6 fd6 fr6d fd6d hW7
       by_cases hdeep : 40 ≤ (L : Int) + 1 + M
       ·gi_wp2
        refine zAf (bs := [w4.heap.size]) (V := W7) HQ7.out (by simp) MKS7.out rfl (fun w' hw' => HDEEP.out hir hk HMEM.out ha0' (by omega) (by rw [hM.out]; exact hdeep) _ (FINN.out W7 w' _ HB7.out (by have := HZ7.out; omega) hw'))
       ·have hdeep' : (L : Int) + 1 + M < 40 := by omega
        have hY := HYES.out hir hk HMEM.out ha0' (by omega) (by rw [hM.out]; exact hdeep')
        obtain ⟨pe, k, g1, p1, e2, g2, y1, y2, y3, y4, y5, y6, y7, y8, y9, y10, y11⟩ := hY
        have hcut := zGc HT7.out HWF.out HE.out y1 k y2 y3 y4
        rw [y5] at hcut
        have HCUT := Lib.hid hcut
        have HY6 := Lib.hid y6
        have HY7 := Lib.hid y7
        have HY8 := Lib.hid y8
        have HY9 := Lib.hid y9
        have HY10 := Lib.hid y10
        have HY11 := Lib.hid y11
        clear hcut y1 y2 y3 y4 y5 y6 y7 y8 y9 y10 y11
        gi_wp2
        refine ⟨trivial, rfl, ?_⟩
        refine (callsIn_wide.2 HCUT.out).mono ?_
        rintro e8 w8 ⟨rfl, yl, hnb, ht8, hg8⟩
        have hnm7 : ∀ b, w.heap.size ≤ b → ¬ Mine t mb y g b := fun b hb hm => by have := HH.out.lt hm; omega
        have hkeep8 : ∀ b, w.heap.size ≤ b → b < W7.heap.size → w8.heap[b]? = W7.heap[b]? := fun b h1 h2 => hg8.1.block b h2 (hnm7 b h1)
        have hn := hN.out
        have hz7 := HZ7.out
        obtain ⟨q1, q2, q3⟩ := hnum.out
        have hR8 : w8.heap[N]? = some (.cells #[.int .i64 parent] 3 (0, 0)) := (hkeep8 N (by omega) (by omega)).trans HR7.out
        have hQ8 : w8.heap[N + 1]? = some (.cells #[.int .i64 0] 38 (0, 0)) := (hkeep8 _ (by omega) (by omega)).trans HQ7.out
        have hK8 : w8.heap[w4.heap.size]? = some (.deferred (some [])) := (hkeep8 _ (by omega) (by omega)).trans HK7.out
        have c7 := ht8.n7 HY6.out
        rw [hnb] at c7
        obtain ⟨A8, c8, hv8, _⟩ := zAJ (ht8.kid _ _ HY6.out)
        have hb9 : Below w8.heap.size w8 (w8.alloc (.cells #[.int .i64 id] 3)) := (Below.refl _ w8).alloc (Nat.le_refl _) _
        have hX9 : (w8.alloc (.cells #[.int .i64 id] 3)).heap[w8.heap.size]? = some (.cells #[.int .i64 id] 3 (0, 0)) := heap_alloc_new w8 _
        have HZ8 : Hid (W7.heap.size ≤ w8.heap.size) := hg8.1.size
        have HT8 := Lib.hid ht8
        have HG8 := Lib.hid hg8
        have HR8 := Lib.hid hR8
        have HQ8 := Lib.hid hQ8
        have HK8 := Lib.hid hK8
        have HB9 := Lib.hid hb9
        have HX9 := Lib.hid hX9
        have HNB := Lib.hid hnb
        have HV8 := Lib.hid hv8
        have HNM7 := Lib.hid hnm7
        have hins := zCs (yl.kid parent) p1.kids at'.toNat id w8.heap.size _ (((ht8.below hb9).kid _ _ HY6.out)) hX9 (fun h => by have := zAP (ht8.kid _ _ HY6.out) h; omega) HY8.out HY7.out
        rw [Int.toNat_of_nonneg ha0'] at hins
        have HINS := Lib.hid hins
        clear hins hnm7 hkeep8 hR8 hQ8 hK8 hv8 hb9 hX9 ht8 hg8 hnb hn hz7 q1 q2 q3 fq7 ff7
        gi_wp2
        refine ⟨trivial, rfl, ?_⟩
        refine (callsIn_wide.2 HINS.out).mono ?_
        rintro e9 w10 ⟨v', rfl, hr10, hg10, hf10⟩
        have H9 := HT8.out.below HB9.out
        obtain ⟨u0, u1, u2⟩ := H9.set_kids HY6.out hr10 hg10 hf10
        rw [HY9.out] at u1 u2
        rw [HNB.out] at u0 u1 u2
        have f7 := zAA u0 7 _ rfl
        have f8 := zAL u0 7
        obtain ⟨pa, pn, pc, hv'⟩ : ∃ pa pn pc, v' = .slice pa pn pc := by
         rcases hr10.2 with ⟨h, _⟩ | ⟨_, _, _, h, _⟩
         ·exact ⟨_, _, _, h⟩
         ·exact ⟨_, _, _, h⟩
        subst hv'
        obtain ⟨w11, hw11⟩ : ∃ w11, Hid (w10.setCell ⟨y.nb parent, 7, none⟩ (.slice pa pn pc) = w11) := ⟨_, rfl⟩
        rw [hw11.out] at u1 u2
        have hnd11 := u1.node id e2 HY10.out
        have hnb11 : (layK yl parent (.slice pa pn pc)).nb id = y.nb id := by show yl.nb id = y.nb id; rw [HNB.out]
        rw [hnb11] at hnd11
        have g1' := zAA hnd11 1 _ rfl
        have g2' := zAL hnd11 1
        have hno := u1.nb_not HY10.out id e2 HY10.out
        rw [hnb11] at hno
        have hso : ∀ b, b ≠ y.nb id → (w11.setCell ⟨y.nb id, 1, none⟩ (.int .i64 parent)).heap[b]? = w11.heap[b]? := fun b hne => Below.heap_setCell _ _ _ _ hne
        obtain ⟨z1, z2⟩ := u1.turn_node HY10.out { e2 with par := parent } ((layK yl parent (.slice pa pn pc)).att id) ((layK yl parent (.slice pa pn pc)).kid id) (w' := w11.setCell ⟨y.nb id, 1, none⟩ (.int .i64 parent))
         (fun b _ hne _ _ => hso b (fun e' => hne (by rw [hnb11]; exact e'))) (by rw [hnb11, zCz hnd11]; rfl)
         (zAD (u1.att id e2 HY10.out) fun b hb => hso b (fun e' => hno.1 (by rw [hb, e']))) (zAD (u1.kid id e2 HY10.out) fun b hb => hso b (fun e' => hno.2 (by rw [hb, e']))) (fun b hb => .inl hb) (fun b hb => .inl hb)
        obtain ⟨w12, hw12⟩ : ∃ w12, Hid (w11.setCell ⟨y.nb id, 1, none⟩ (.int .i64 parent) = w12) := ⟨_, rfl⟩
        rw [hw12.out] at z1
        have hG9 := (Grows.of_below HB9.out).trans u2
        have hG12 : Grows (Mine t mb y g) (Mine t mb { (layK yl parent (.slice pa pn pc)) with att := fset (layK yl parent (.slice pa pn pc)).att id ((layK yl parent (.slice pa pn pc)).att id), kid := fset (layK yl parent (.slice pa pn pc)).kid id ((layK yl parent (.slice pa pn pc)).kid id) } (fset g2 id (some { e2 with par := parent }))) W7 w12 := by
         refine (HG8.out.trans hG9).trans ⟨⟨?_, ?_, ?_, ?_, fun b hb hm => ?_⟩, z2⟩
         ·rw [← hw12.out]; rfl
         ·rw [← hw12.out]; rfl
         ·rw [← hw12.out]; rfl
         ·rw [← hw12.out]; simp
         ·rw [← hw12.out]; exact hso b (fun e' => hm (.inr (.inr ⟨id, e2, HY10.out, .inl (by rw [hnb11]; exact e')⟩)))
        have hk12 : ∀ b, w.heap.size ≤ b → b < W7.heap.size → w12.heap[b]? = W7.heap[b]? := fun b h1 h2 => hG12.1.block b h2 (HNM7.out b h1)
        have hk11 : ∀ b, w.heap.size ≤ b → b < W7.heap.size → w11.heap[b]? = W7.heap[b]? := fun b h1 h2 => (HG8.out.trans hG9).1.block b h2 (HNM7.out b h1)
        have hn := hN.out
        have hz7 := HZ7.out
        obtain ⟨q1, q2, q3⟩ := hnum.out
        have fr11 := zAA ((hk11 N (by omega) (by omega)).trans HR7.out) 0 _ rfl
        have hQ12 := (hk12 (N + 1) (by omega) (by omega)).trans HQ7.out
        have hK12 := (hk12 w4.heap.size (by omega) (by omega)).trans HK7.out
        have fq12 := zAA hQ12 0 _ rfl
        have ff12 := zAL hQ12 0
        have HQ12 := Lib.hid hQ12
        have HK12 := Lib.hid hK12
        have HG12 := Lib.hid hG12
        have HZ1' := Lib.hid z1
        have MKS12 : Hid (∀ b ∈ [w4.heap.size], w12.heap[b]? = some (.deferred (some []))) := fun b hb => by simp at hb; subst hb; exact HK12.out
        clear H9 hr10 hg10 hf10 u0 u1 u2 hnd11 hnb11 hno hso z1 z2 hG9 hG12 hk12 hk11 hQ12 hK12 hn hz7 q1 q2 q3
        rw [← hw12.out] at fq12 ff12
        rw [← hw11.out] at fr11 g1' g2' fq12 ff12
        gi_wp2
        rw [hw11.out, hw12.out]
        refine zAf (bs := [w4.heap.size]) (V := w12) HQ12.out (by simp) MKS12.out rfl (fun w' hw' => HY11.out w' (zJk HZ7.out hN.out (by have h1 := hN.out; have h2 := HZ7.out; have h3 := hnum.out.2.2; exact ⟨by omega, by omega⟩) HH.out HB7.out HG12.out HZ1'.out hw'))
    ·have hep' : (e.par == parent) = false := by simpa using hep
     have hmy : (m : Int) = many := by have := hmany.out; rw [hm.out, if_neg hep] at this; omega
     subst hmy
     by_cases ha0 : at' < 0
     ·gi_wp2
      refine zAf (bs := [w4.heap.size]) (V := W6) HQ6.out (by simp) MKS.out rfl (fun w' hw' => HPLACE.out hir hk HMEM.out (.inl ha0) _ (FINN.out W6 w' _ HB6.out (by have := HZ6.out; omega) hw'))
     ·have ha0' : 0 ≤ at' := by omega
      by_cases ha1 : (m : Int) < at'
      ·gi_wp2
       refine zAf (bs := [w4.heap.size]) (V := W6) HQ6.out (by simp) MKS.out rfl (fun w' hw' => HPLACE.out hir hk HMEM.out (.inr (by omega)) _ (FINN.out W6 w' _ HB6.out (by have := HZ6.out; omega) hw'))
      ·have ha1' : at' ≤ (m : Int) := by omega
       gi_wp2
       refine wpIn_wide.2 ?_
       have lev : ∀ j, Calls Tryz.prog 48 #[.pointer (some ⟨t, 0, none⟩), .int .i64 parent] (W6.drewN j) fun e w' => e = .returned (.int .i64 (L : Int)) ∧ w' = W6.drewN j := fun j =>
        (zBy (HT6.out.keep (w' := W6.drewN j) fun _ _ => rfl) HWF.out L hL parent HLEV.out).mono fun _ _ h => ⟨h.1, h.2.symm⟩
       go_quiet (exact Calls.quiet_of_same (lev _))
       clear lev
       obtain ⟨W7, hW7⟩ : ∃ W7, Hid (W6.drewN nq = W7) := ⟨_, rfl⟩
       rw [hW7.out]
       have HT7 : Hid (TreeAt W7 t mb y g root next n) := by rw [← hW7.out]; exact HT6.out.keep fun _ _ => rfl
       have HB7 : Hid (Below w.heap.size w W7) := by
        have := HB6.out
        rw [← hW7.out]; exact ⟨this.os, this.tape, this.output, this.size, this.block⟩
       have HQ7 : Hid (W7.heap[N + 1]? = some (.cells #[.int .i64 0] 38 (0, 0))) := by rw [← hW7.out]; exact HQ6.out
       have HR7 : Hid (W7.heap[N]? = some (.cells #[.int .i64 parent] 3 (0, 0))) := by rw [← hW7.out]; exact HR6.out
       have HK7 : Hid (W7.heap[w4.heap.size]? = some (.deferred (some []))) := by rw [← hW7.out]; exact HK6.out
       have HZ7 : Hid (N + 7 ≤ W7.heap.size) := by rw [← hW7.out]; exact HZ6.out
       have MKS7 : Hid (∀ b ∈ [w4.heap.size], W7.heap[b]? = some (.deferred (some []))) := fun b hb => by simp at hb; subst hb; exact HK7.out
       have fq7 := zAA HQ7.out 0 _ rfl
       have ff7 := zAL HQ7.out 0
       clear fq6 ff6 fr6 fd6 fr6d fd6d hW7
       by_cases hdeep : 40 ≤ (L : Int) + 1 + M
       ·gi_wp2
        refine zAf (bs := [w4.heap.size]) (V := W7) HQ7.out (by simp) MKS7.out rfl (fun w' hw' => HDEEP.out hir hk HMEM.out ha0' (by omega) (by rw [hM.out]; exact hdeep) _ (FINN.out W7 w' _ HB7.out (by have := HZ7.out; omega) hw'))
       ·have hdeep' : (L : Int) + 1 + M < 40 := by omega
        have hY := HYES.out hir hk HMEM.out ha0' (by omega) (by rw [hM.out]; exact hdeep')
        obtain ⟨pe, k, g1, p1, e2, g2, y1, y2, y3, y4, y5, y6, y7, y8, y9, y10, y11⟩ := hY
        have hcut := zGc HT7.out HWF.out HE.out y1 k y2 y3 y4
        rw [y5] at hcut
        have HCUT := Lib.hid hcut
        have HY6 := Lib.hid y6
        have HY7 := Lib.hid y7
        have HY8 := Lib.hid y8
        have HY9 := Lib.hid y9
        have HY10 := Lib.hid y10
        have HY11 := Lib.hid y11
        clear hcut y1 y2 y3 y4 y5 y6 y7 y8 y9 y10 y11
        gi_wp2
        refine ⟨trivial, rfl, ?_⟩
        refine (callsIn_wide.2 HCUT.out).mono ?_
        rintro e8 w8 ⟨rfl, yl, hnb, ht8, hg8⟩
        have hnm7 : ∀ b, w.heap.size ≤ b → ¬ Mine t mb y g b := fun b hb hm => by have := HH.out.lt hm; omega
        have hkeep8 : ∀ b, w.heap.size ≤ b → b < W7.heap.size → w8.heap[b]? = W7.heap[b]? := fun b h1 h2 => hg8.1.block b h2 (hnm7 b h1)
        have hn := hN.out
        have hz7 := HZ7.out
        obtain ⟨q1, q2, q3⟩ := hnum.out
        have hR8 : w8.heap[N]? = some (.cells #[.int .i64 parent] 3 (0, 0)) := (hkeep8 N (by omega) (by omega)).trans HR7.out
        have hQ8 : w8.heap[N + 1]? = some (.cells #[.int .i64 0] 38 (0, 0)) := (hkeep8 _ (by omega) (by omega)).trans HQ7.out
        have hK8 : w8.heap[w4.heap.size]? = some (.deferred (some [])) := (hkeep8 _ (by omega) (by omega)).trans HK7.out
        have c7 := ht8.n7 HY6.out
        rw [hnb] at c7
        obtain ⟨A8, c8, hv8, _⟩ := zAJ (ht8.kid _ _ HY6.out)
        have hb9 : Below w8.heap.size w8 (w8.alloc (.cells #[.int .i64 id] 3)) := (Below.refl _ w8).alloc (Nat.le_refl _) _
        have hX9 : (w8.alloc (.cells #[.int .i64 id] 3)).heap[w8.heap.size]? = some (.cells #[.int .i64 id] 3 (0, 0)) := heap_alloc_new w8 _
        have HZ8 : Hid (W7.heap.size ≤ w8.heap.size) := hg8.1.size
        have HT8 := Lib.hid ht8
        have HG8 := Lib.hid hg8
        have HR8 := Lib.hid hR8
        have HQ8 := Lib.hid hQ8
        have HK8 := Lib.hid hK8
        have HB9 := Lib.hid hb9
        have HX9 := Lib.hid hX9
        have HNB := Lib.hid hnb
        have HV8 := Lib.hid hv8
        have HNM7 := Lib.hid hnm7
        have hins := zCs (yl.kid parent) p1.kids at'.toNat id w8.heap.size _ (((ht8.below hb9).kid _ _ HY6.out)) hX9 (fun h => by have := zAP (ht8.kid _ _ HY6.out) h; omega) HY8.out HY7.out
        rw [Int.toNat_of_nonneg ha0'] at hins
        have HINS := Lib.hid hins
        clear hins hnm7 hkeep8 hR8 hQ8 hK8 hv8 hb9 hX9 ht8 hg8 hnb hn hz7 q1 q2 q3 fq7 ff7
        gi_wp2
        refine ⟨trivial, rfl, ?_⟩
        refine (callsIn_wide.2 HINS.out).mono ?_
        rintro e9 w10 ⟨v', rfl, hr10, hg10, hf10⟩
        have H9 := HT8.out.below HB9.out
        obtain ⟨u0, u1, u2⟩ := H9.set_kids HY6.out hr10 hg10 hf10
        rw [HY9.out] at u1 u2
        rw [HNB.out] at u0 u1 u2
        have f7 := zAA u0 7 _ rfl
        have f8 := zAL u0 7
        obtain ⟨pa, pn, pc, hv'⟩ : ∃ pa pn pc, v' = .slice pa pn pc := by
         rcases hr10.2 with ⟨h, _⟩ | ⟨_, _, _, h, _⟩
         ·exact ⟨_, _, _, h⟩
         ·exact ⟨_, _, _, h⟩
        subst hv'
        obtain ⟨w11, hw11⟩ : ∃ w11, Hid (w10.setCell ⟨y.nb parent, 7, none⟩ (.slice pa pn pc) = w11) := ⟨_, rfl⟩
        rw [hw11.out] at u1 u2
        have hnd11 := u1.node id e2 HY10.out
        have hnb11 : (layK yl parent (.slice pa pn pc)).nb id = y.nb id := by show yl.nb id = y.nb id; rw [HNB.out]
        rw [hnb11] at hnd11
        have g1' := zAA hnd11 1 _ rfl
        have g2' := zAL hnd11 1
        have hno := u1.nb_not HY10.out id e2 HY10.out
        rw [hnb11] at hno
        have hso : ∀ b, b ≠ y.nb id → (w11.setCell ⟨y.nb id, 1, none⟩ (.int .i64 parent)).heap[b]? = w11.heap[b]? := fun b hne => Below.heap_setCell _ _ _ _ hne
        obtain ⟨z1, z2⟩ := u1.turn_node HY10.out { e2 with par := parent } ((layK yl parent (.slice pa pn pc)).att id) ((layK yl parent (.slice pa pn pc)).kid id) (w' := w11.setCell ⟨y.nb id, 1, none⟩ (.int .i64 parent))
         (fun b _ hne _ _ => hso b (fun e' => hne (by rw [hnb11]; exact e'))) (by rw [hnb11, zCz hnd11]; rfl)
         (zAD (u1.att id e2 HY10.out) fun b hb => hso b (fun e' => hno.1 (by rw [hb, e']))) (zAD (u1.kid id e2 HY10.out) fun b hb => hso b (fun e' => hno.2 (by rw [hb, e']))) (fun b hb => .inl hb) (fun b hb => .inl hb)
        obtain ⟨w12, hw12⟩ : ∃ w12, Hid (w11.setCell ⟨y.nb id, 1, none⟩ (.int .i64 parent) = w12) := ⟨_, rfl⟩
        rw [hw12.out] at z1
        have hG9 := (Grows.of_below HB9.out).trans u2
        have hG12 : Grows (Mine t mb y g) (Mine t mb { (layK yl parent (.slice pa pn pc)) with att := fset (layK yl parent (.slice pa pn pc)).att id ((layK yl parent (.slice pa pn pc)).att id), kid := fset (layK yl parent (.slice pa pn pc)).kid id ((layK yl parent (.slice pa pn pc)).kid id) } (fset g2 id (some { e2 with par := parent }))) W7 w12 := by
         refine (HG8.out.trans hG9).trans ⟨⟨?_, ?_, ?_, ?_, fun b hb hm => ?_⟩, z2⟩
         ·rw [← hw12.out]; rfl
         ·rw [← hw12.out]; rfl
         ·rw [← hw12.out]; rfl
         ·rw [← hw12.out]; simp
         ·rw [← hw12.out]; exact hso b (fun e' => hm (.inr (.inr ⟨id, e2, HY10.out, .inl (by rw [hnb11]; exact e')⟩)))
        have hk12 : ∀ b, w.heap.size ≤ b → b < W7.heap.size → w12.heap[b]? = W7.heap[b]? := fun b h1 h2 => hG12.1.block b h2 (HNM7.out b h1)
        have hk11 : ∀ b, w.heap.size ≤ b → b < W7.heap.size → w11.heap[b]? = W7.heap[b]? := fun b h1 h2 => (HG8.out.trans hG9).1.block b h2 (HNM7.out b h1)
        have hn := hN.out
        have hz7 := HZ7.out
        obtain ⟨q1, q2, q3⟩ := hnum.out
        have fr11 := zAA ((hk11 N (by omega) (by omega)).trans HR7.out) 0 _ rfl
        have hQ12 := (hk12 (N + 1) (by omega) (by omega)).trans HQ7.out
        have hK12 := (hk12 w4.heap.size (by omega) (by omega)).trans HK7.out
        have fq12 := zAA hQ12 0 _ rfl
        have ff12 := zAL hQ12 0
        have HQ12 := Lib.hid hQ12
        have HK12 := Lib.hid hK12
        have HG12 := Lib.hid hG12
        have HZ1' := Lib.hid z1
        have MKS12 : Hid (∀ b ∈ [w4.heap.size], w12.heap[b]? = some (.deferred (some []))) := fun b hb => by simp at hb; subst hb; exact HK12.out
        clear H9 hr10 hg10 hf10 u0 u1 u2 hnd11 hnb11 hno hso z1 z2 hG9 hG12 hk12 hk11 hQ12 hK12 hn hz7 q1 q2 q3
        rw [← hw12.out] at fq12 ff12
        rw [← hw11.out] at fr11 g1' g2' fq12 ff12
        gi_wp2
        rw [hw11.out, hw12.out]
        refine zAf (bs := [w4.heap.size]) (V := w12) HQ12.out (by simp) MKS12.out rfl (fun w' hw' => HY11.out w' (zJk HZ7.out hN.out (by have h1 := hN.out; have h2 := HZ7.out; have h3 := hnum.out.2.2; exact ⟨by omega, by omega⟩) HH.out HB7.out HG12.out HZ1'.out hw'))
  ·have hk' : (p.d.kind != 1) = true := by simpa using hk
   gi_wp2
   refine zAf (bs := []) (V := W2) HQ2.out (by simp) (by simp) rfl (fun w' hw' => HKIND.out hir hk _ (fin.out [] W2 w' _ HB2.out (by have := HZ2.out; omega) (by simp) hw'))
end
end
section
open Go.RowKit
def noDefer (o : Oper) : Bool := match o.op with | .defer _ => false | _ => true
theorem zIW {P : Program} {row : String} {args : Array Value} {w : World} {R : Value → World → Prop} {n l : Nat} (h : Rows P row args w R) : RowsIn (Fence.wide.inRound l) n P row args w R := fun c cs _ => by
 obtain ⟨v, w', r, s⟩ := h c cs
 exact ⟨v, w', r, (stepsIn_wide (m := _)).2 s⟩
theorem zIQ {P : Program} {o : Oper} {a : Act} {w : World} {K : Act → World → Prop} {Q : Exit → Act → World → Prop} {n l : Nat} (hd : noDefer o = true) (h : o.wp P a w K Q) : o.wpIn (Fence.wide.inRound l) n P a w K Q := by
 refine ⟨fun _ _ => trivial, ?_⟩
 rw [Oper.semAt_plain _ _ _ (fun c hc => by simp [noDefer, hc] at hd)]
 unfold Oper.wp at h
 generalize (execOp a.eval o).run P w = r at h ⊢
 rcases r with ⟨x, w'⟩ | ⟨x, w'⟩
 ·cases x
  case value v => exact h
  case skip => exact h
  case defer d => exact h
  case enter f args => exact ⟨fun h => (by cases h), CallsIn.inRound l (callsIn_wide.2 h)⟩
  case row r args => exact ⟨fun h => (by cases h), zIW h⟩
  all_goals exact h.elim
 ·cases x <;> first | exact h | exact h.elim
theorem zCV {P : Program} {md : Region.Mode} {ops : Array Oper} {Q : Exit → Act → World → Prop} {n l : Nat} (hd : ops.all noDefer = true) (hQ : ¬ LetsOut Q) : ∀ (fuel : Nat) (listed : Array Bool) (a : Act) (w : World), wpAny P md ops Q fuel listed a w → wpAnyIn (Fence.wide.inRound l) n P md ops Q fuel listed a w
 | 0, _, _, _, h => h
 | fuel + 1, listed, a, w, h => by
  refine ⟨h.1, fun i hi => ?_⟩
  have h1 := h.2 i hi
  unfold wpOp at h1
  unfold wpOpIn
  cases ho : ops[i]? with
  | none => rw [ho] at h1; exact zCV hd hQ fuel _ _ _ h1
  | some o =>
   rw [ho] at h1
   simp only at h1 ⊢
   have hod : noDefer o = true := by
    obtain ⟨hlt, rfl⟩ := Array.getElem?_eq_some_iff.1 ho
    exact (Array.all_eq_true.1 hd) i hlt
   split at h1
   ·rcases h1 with h1 | ⟨_, h1⟩
    ·rw [if_pos (by assumption)]
     exact zIQ hod (Oper.wp_mono (fun a w h => zCV hd hQ fuel _ a w h) h1)
    ·exact (hQ h1).elim
   ·rw [if_neg (by assumption)]
    exact ⟨fun _ _ => trivial, zCV hd hQ fuel _ _ _ h1⟩
def onlyN (Q : Exit → Act → World → Prop) : Exit → Act → World → Prop
 | .normal, a, w => Q .normal a w
 | _, _, _ => False
theorem zBp {P : Program} {ops : Array Oper} {Q : Exit → Act → World → Prop} {id n l : Nat} {a : Act} {w : World} (S : World → Prop) (hm : P.follows .mixedOrders = true) (hd : ops.all noDefer = true) (hS : S w.drew)
  (h : S w.drew → wpAnyH P .any ops (onlyN Q) S ops.size (Array.replicate ops.size false) a w.drew) : (Code.region id ops true).wpIn (Fence.wide.inRound l) n P Q a w := by
 have hl : ¬ LetsOut (onlyN Q) := fun ⟨_, _, h⟩ => h
 refine wpIn_mono (wpIn_region_any (Q := onlyN Q) hm (zCV hd hl _ _ _ _ (wpAny_of_held _ _ _ _ (h hS)))) ?_
 intro e a w h
 cases e <;> first | exact h | exact h.elim
end
section
open Go.RowKit Go.Shelf
attribute [local go_sem] Oper.semAt_some
def itemG (g : Int → Option Ent) (x : Int × Int) : ItemD := match g x.1 with
 | some e => e.d.at x.2
 | none => ⟨0, 0, [], [], []⟩
theorem zL7 {w : World} {N : Nat} {e : TypeId} {size : Nat} {v : Value} {n : Nat} {xs : List Value} (h : w.ownsRow 0 e size v n xs) (hN : ∀ b, v.ownBlock = some b → N ≤ b) : w.ownsRow N e size v n xs := by
 refine ⟨h.1, ?_⟩
 rcases h.2 with h0 | ⟨g, cap, cur, rfl, _, rest⟩
 ·exact .inl h0
 ·exact .inr ⟨g, cap, cur, rfl, hN g rfl, rest⟩
def ItemsIn (N bx : Nat) (g : Int → Option Ent) (ys : List (Int × Int)) (Fp : Nat → Prop) (W : World) : Prop :=
 ∃ S : List Slot, S.map (·.1) = ys.map (itemG g) ∧ BoxRow N bx 22 75 5 ys.length (S.flatMap cellsI) Fp W ∧
  ∀ s ∈ S, AttrsOwn W N s.2.1 s.2.2 s.1.attrs ∧ ∀ b, (Value.slice s.2.1 s.1.attrs.length s.2.2).ownBlock = some b → Fp b
theorem ItemsIn.stab {N M bx : Nat} {g : Int → Option Ent} {ys : List (Int × Int)} (Fp : Nat → Prop) : StabF M Fp (ItemsIn N bx g ys Fp) := by
 rintro A B ⟨S, h1, h2, h3⟩ hk
 exact ⟨S, h1, BoxRow.stab Fp A B h2 hk, fun s hs => ⟨zAD (h3 s hs).1 fun b hb => hk.block (zAP (h3 s hs).1 hb) (.inr ((h3 s hs).2 b hb)), (h3 s hs).2⟩⟩
def itemRow (xl : Int) (e : Ent) (A : Option Addr) (c : Nat) : Array Value := #[.int .i64 xl, .int .i64 e.d.kind, strV e.d.name, strV e.d.text, .slice A e.d.attrs.length c]
end
section
open Go.RowKit Go.Shelf
theorem zCi {P : Program} {fn : Func} {p u : Tmp} {ty : TypeId} (h : fn.results = #[.cell p ty, .tmp u]) (tmps : Array Value) (w : World) (g : Nat) (t : TypeId) (cs : Array Value) (fr : Nat × Nat) (d : TypeDesc)
  (hp : tmps.getD p undef = .pointer (some ⟨g, 0, none⟩)) (hg : w.heap[g]? = some (.cells cs t fr))
  (hu : P.underlying ty = some d) (hd : (match d with | .struct _ | .array _ _ => true | _ => false) = true) (hi : (P.info? ty).map (·.size) = some cs.size) :
  (results fn tmps).run P w = .ok (.tuple #[.agg cs, tmps.getD u undef]) w := by
 have hp' : tmps[p]?.getD undef = .pointer (some ⟨g, 0, none⟩) := by simpa using hp
 simp [results, h, hp', asAddr, Result.andThen, run_loadVar_row w g t ty cs fr d hg hu hd hi]
def nodeR (id : Int) (e : Ent) (v : Value) : Array Value := #[.int .i64 id, .int .i64 e.par, .int .i64 e.d.kind, .int .i64 (e.kids.length : Int), strV e.d.name, strV e.d.text, v]
def nodeR0 (id : Int) (e : Ent) (v : Value) : Array Value := #[.int .i64 id, .int .i64 e.par, .int .i64 e.d.kind, .int .i64 0, strV e.d.name, strV e.d.text, v]
def nodeZ : Array Value := #[.int .i64 0, .int .i64 0, .int .i64 0, .int .i64 0, .string ⟨#[]⟩, .string ⟨#[]⟩, .slice none 0 0]
theorem zJo : nodeZ.all (·.oneCell') = true := by simp [nodeZ, Value.oneCell']
theorem zF2 (id : Int) (e : Ent) (A : Option Addr) (n c : Nat) : (nodeR id e (.slice A n c)).all (·.oneCell') = true := by simp [nodeR, strV, Value.oneCell']
section
variable {w : World} {t mb : Nat} {y : Lay} {g : Int → Option Ent} {root next : Int} {n : Nat}
theorem zLr (h : TreeAt w t mb y g root next n) {id : Int} (hw : wfI id) (he : g id = none) :
  Calls Tryz.prog 19 #[.pointer (some ⟨t, 0, none⟩), .int .i64 id] w fun e w' => e = .returned (.tuple #[.agg nodeZ, .bool false]) ∧ Below w.heap.size w w' := by
 obtain ⟨W1, hW1⟩ : ∃ W1, Hid (W1 = w.alloc (.cells nodeZ 49)) := ⟨_, rfl⟩
 have hb1 : Below w.heap.size w W1 := by rw [hW1.out]; exact (Below.refl _ w).alloc (Nat.le_refl _) _
 have HT1 : Hid (W1.heap[w.heap.size]? = some (.cells nodeZ 49 (0, 0))) := by show _ = _; rw [hW1.out]; exact heap_alloc_new w _
 have h1 := h.below hb1
 have c0 := h1.c0
 have hl := (h1.look_no he hw).1
 rw [hW1.out] at c0 hl
 unfold nodeZ at c0 hl
 have HB1 := Lib.hid hb1
 clear h h1 he hb1
 go_enter Tryz.func19, Tryz.ntmps19
 go_wp2_with fail
 refine bodyPost_ret (zCi Tryz.results19 _ _ w.heap.size 49 nodeZ (0, 0) _ rfl (heap_alloc_new w _) Tryz.underlying49 rfl (by kernel_rfl)) rfl ?_
 refine ⟨rfl, ?_⟩
 have := HB1.out
 rw [hW1.out] at this
 exact this
theorem zLF (h : TreeAt w t mb y g root next n) {id : Int} {e : Ent} (hw : wfI id) (he : g id = some e) (hal : e.d.attrs.length ≤ 1000000000) (hkl : e.kids.length ≤ 1000000000) :
  Calls Tryz.prog 19 #[.pointer (some ⟨t, 0, none⟩), .int .i64 id] w fun er w' => ∃ A c, er = .returned (.tuple #[.agg (nodeR id e (.slice A e.d.attrs.length c)), .bool true]) ∧ AttrsOwn w' w.heap.size A c e.d.attrs ∧ Below w.heap.size w w' := by
 obtain ⟨W1, hW1⟩ : ∃ W1, Hid (W1 = w.alloc (.cells nodeZ 49)) := ⟨_, rfl⟩
 have hb1 : Below w.heap.size w W1 := by rw [hW1.out]; exact (Below.refl _ w).alloc (Nat.le_refl _) _
 have HT1 : Hid (W1.heap[w.heap.size]? = some (.cells nodeZ 49 (0, 0))) := by show _ = _; rw [hW1.out]; exact heap_alloc_new w _
 have h1 := h.below hb1
 have c0 := h1.c0
 have hl := (h1.look_yes he hw).1
 obtain ⟨A0, c0', hat, _, _, _, _⟩ := zAJ (h1.att _ _ he)
 obtain ⟨A1, c1', hki, _, _, _, _⟩ := zAJ (h1.kid _ _ he)
 have hnode := h1.node _ _ he
 rw [hat] at hnode
 have d0 : W1.cell? ⟨y.nb id, 0, none⟩ = some (.int .i64 id) := zAA hnode 0 _ rfl
 have d1 : W1.cell? ⟨y.nb id, 1, none⟩ = some (.int .i64 e.par) := zAA hnode 1 _ rfl
 have d2 : W1.cell? ⟨y.nb id, 2, none⟩ = some (.int .i64 e.d.kind) := zAA hnode 2 _ rfl
 have d3 : W1.cell? ⟨y.nb id, 3, none⟩ = some (.int .i64 0) := zAA hnode 3 _ rfl
 have d4 : W1.cell? ⟨y.nb id, 4, none⟩ = some (.string ⟨e.d.name.toArray⟩) := zAA hnode 4 _ rfl
 have d5 : W1.cell? ⟨y.nb id, 5, none⟩ = some (.string ⟨e.d.text.toArray⟩) := zAA hnode 5 _ rfl
 have d6 : W1.cell? ⟨y.nb id, 6, none⟩ = some (.slice A0 e.d.attrs.length c0') := zAA hnode 6 _ rfl
 have HROW : Hid (AttrsOwn W1 0 A0 c0' e.d.attrs) := by
  have := h1.att _ _ he
  rw [hat] at this
  exact this
 have HKI := Lib.hid hki
 have HAT := Lib.hid hat
 have HE := Lib.hid he
 have H1 := Lib.hid h1
 have HB1 := Lib.hid hb1
 have HAL := Lib.hid hal
 have HKL := Lib.hid hkl
 have hz1 : Hid (W1.heap.size = w.heap.size + 1) := by show _ = _; rw [hW1.out]; simp
 rw [hW1.out] at c0 hl d0 d1 d2 d3 d4 d5 d6
 unfold nodeZ at c0 hl d0 d1 d2 d3 d4 d5 d6
 clear h h1 he hb1 hat hki hnode hal hkl
 go_enter Tryz.func19, Tryz.ntmps19
 go_wp2_with fail
 change Code.wp _ _ _ _ ((w.alloc (.cells nodeZ 49)).alloc (.cells (nodeR0 id e (.slice A0 e.d.attrs.length c0')) 49))
 rw [← hW1.out]
 obtain ⟨W2, hW2⟩ : ∃ W2, Hid (W1.alloc (.cells (nodeR0 id e (.slice A0 e.d.attrs.length c0')) 49) = W2) := ⟨_, rfl⟩
 rw [hW2.out]
 have hb2 : Below W1.heap.size W1 W2 := by rw [← hW2.out]; exact (Below.refl _ W1).alloc (Nat.le_refl _) _
 have hz2 : W2.heap.size = W1.heap.size + 1 := by rw [← hW2.out]; simp
 have HX2 : Hid (W2.heap[W1.heap.size]? = some (.cells (nodeR0 id e (.slice A0 e.d.attrs.length c0')) 49 (0, 0))) := by show _ = _; rw [← hW2.out]; exact heap_alloc_new W1 _
 have HT2 : Hid (W2.heap[w.heap.size]? = some (.cells nodeZ 49 (0, 0))) := (hb2.block _ (by have := hz1.out; omega)).trans HT1.out
 have H2 := Lib.hid (H1.out.below hb2)
 have HROW2 : Hid (AttrsOwn W2 0 A0 c0' e.d.attrs) := zAD HROW.out fun b hb => hb2.block b (zAP HROW.out hb)
 have HB2 := Lib.hid (HB1.out.trans (hb2.mono HB1.out.size))
 have HZ2 := Lib.hid hz2
 have hsz1 : w.heap.size + 1 = W1.heap.size := hz1.out.symm
 rw [hsz1]
 clear c0 hl d0 d1 d2 d3 d4 d5 d6 hb2 hz2 hsz1
 have hkS : ∀ V : World, TreeAt V t mb y g root next n → V.cell? ⟨y.nb id, 6, none⟩ = some (.slice A0 e.d.attrs.length c0') ∧ V.cell? ⟨y.nb id, 7, none⟩ = some (.slice A1 e.kids.length c1') := fun V h =>
  ⟨by rw [← HAT.out]; exact h.n6 HE.out, by rw [← HKI.out]; exact h.n7 HE.out⟩
 have HKS := Lib.hid hkS
 have HTD : Hid (TreeAt W2.drew t mb y g root next n) := H2.out.keep fun _ _ => rfl
 have hk0 : (e.kids.length : Int) ≤ 1000000000 := by have := HKL.out; omega
 clear hkS
 refine wp_region_held_drew (S := fun V => V.cell? ⟨y.nb id, 6, none⟩ = some (.slice A0 e.d.attrs.length c0') ∧ V.cell? ⟨y.nb id, 7, none⟩ = some (.slice A1 e.kids.length c1')) (by kernel_rfl) (HKS.out _ HTD.out) (fun hHeld => ?_)
 refine tkv 0 (h := tkv 1 (h := tkv 2 (h := tkv 3 (h := tkv 4 (h := tkv 5 (h := ?_))))))
 refine tkv 6 (h := tkv 7 (h := tkv 8 (h := tkv 9 (h := ?_))))
 refine tkv 11 (h := ?_)
 refine rdy 10 (fun K hK => ?_)
 go_simp
 refine (zFL e.d.attrs A0 c0' W2.drew (HROW2.out.at) HAL.out).mono ?_
 rintro e1 w5 ⟨A5, c5, rfl, hown5, hb5⟩
 have ht5 := HTD.out.below hb5
 have HT5 := Lib.hid ht5
 have hx5 : w5.heap[W1.heap.size]? = some (.cells (nodeR0 id e (.slice A0 e.d.attrs.length c0')) 49 (0, 0)) := (hb5.block _ (by have := HZ2.out; show _ < W2.heap.size; omega)).trans HX2.out
 have hr5 : w5.heap[w.heap.size]? = some (.cells nodeZ 49 (0, 0)) := (hb5.block _ (by have := HZ2.out; have := hz1.out; show _ < W2.heap.size; omega)).trans HT2.out
 go_wp2_with fail
 refine hK.out _ _ (HKS.out _ HT5.out) (fun hHeld => ?_)
 clear hK K
 try go_frame
 have e3 : w5.cell? ⟨W1.heap.size, 3, none⟩ = some (.int .i64 0) := zAA hx5 3 _ rfl
 have f3 := zAL hx5 3
 have hkeepT : ∀ (V : World) (q : Nat) (v : Value), TreeAt V t mb y g root next n → TreeAt (V.setCell ⟨W1.heap.size, q, none⟩ v) t mb y g root next n := fun V q v hV =>
  hV.keep fun b hb => Below.heap_setCell _ _ _ _ (fun e' => by have h1 := H1.out.lt hb; have e2 : b = W1.heap.size := e'; omega)
 obtain ⟨w6, hw6⟩ : ∃ w6, Hid (w5.setCell ⟨W1.heap.size, 3, none⟩ (.int .i64 (e.kids.length : Int)) = w6) := ⟨_, rfl⟩
 have hx6 : w6.heap[W1.heap.size]? = some (.cells (nodeR id e (.slice A0 e.d.attrs.length c0')) 49 (0, 0)) := by rw [← hw6.out]; exact Lib.heap_setCell_same (i := 3) hx5 _
 have HT6 : Hid (TreeAt w6 t mb y g root next n) := by rw [← hw6.out]; exact hkeepT _ _ _ HT5.out
 have e6 : w6.cell? ⟨W1.heap.size, 6, none⟩ = some (.slice A0 e.d.attrs.length c0') := zAA hx6 6 _ rfl
 have f6 := zAL hx6 6
 obtain ⟨w7, hw7⟩ : ∃ w7, Hid (w6.setCell ⟨W1.heap.size, 6, none⟩ (.slice A5 e.d.attrs.length c5) = w7) := ⟨_, rfl⟩
 have hx7 : w7.heap[W1.heap.size]? = some (.cells (nodeR id e (.slice A5 e.d.attrs.length c5)) 49 (0, 0)) := by rw [← hw7.out]; exact Lib.heap_setCell_same (i := 6) hx6 _
 have HT7 : Hid (TreeAt w7 t mb y g root next n) := by rw [← hw7.out]; exact hkeepT _ _ _ HT6.out
 have hso : ∀ b, b ≠ W1.heap.size → w7.heap[b]? = w5.heap[b]? := fun b hb => by
  rw [← hw7.out, Below.heap_setCell _ _ _ _ hb, ← hw6.out, Below.heap_setCell _ _ _ _ hb]
 have HR7 : Hid (w7.heap[w.heap.size]? = some (.cells nodeZ 49 (0, 0))) := (hso _ (by have := hz1.out; omega)).trans hr5
 have HA7 : Hid (AttrsOwn w7 w.heap.size A5 c5 e.d.attrs) := by
  have h1 := World.ownsRow.mono hown5 (show w.heap.size ≤ W2.drew.heap.size by show w.heap.size ≤ W2.heap.size; have := HZ2.out; have := hz1.out; omega)
  exact zAD h1 fun b hb => hso b (fun e' => by have := (hown5.lt b hb).1; have h2 : W2.heap.size ≤ b := this; have := HZ2.out; omega)
 have HB7 : Hid (Below w.heap.size w w7) := by
  have hb := (HB2.out.drew).trans (hb5.mono (by show w.heap.size ≤ W2.heap.size; have := HZ2.out; have := hz1.out; omega))
  refine ⟨?_, ?_, ?_, ?_, fun b hb' => (hso b (by have := hz1.out; omega)).trans (hb.block b hb')⟩
  ·rw [← hw7.out, ← hw6.out]; exact hb.os
  ·rw [← hw7.out, ← hw6.out]; exact hb.tape
  ·rw [← hw7.out, ← hw6.out]; exact hb.output
  ·rw [← hw7.out, ← hw6.out]; simp; exact hb.size
 have m0 : w7.cell? ⟨W1.heap.size, 0, none⟩ = some (.int .i64 id) := zAA hx7 0 _ rfl
 have m1 : w7.cell? ⟨W1.heap.size, 1, none⟩ = some (.int .i64 e.par) := zAA hx7 1 _ rfl
 have m2 : w7.cell? ⟨W1.heap.size, 2, none⟩ = some (.int .i64 e.d.kind) := zAA hx7 2 _ rfl
 have m3 : w7.cell? ⟨W1.heap.size, 3, none⟩ = some (.int .i64 (e.kids.length : Int)) := zAA hx7 3 _ rfl
 have m4 : w7.cell? ⟨W1.heap.size, 4, none⟩ = some (.string ⟨e.d.name.toArray⟩) := zAA hx7 4 _ rfl
 have m5 : w7.cell? ⟨W1.heap.size, 5, none⟩ = some (.string ⟨e.d.text.toArray⟩) := zAA hx7 5 _ rfl
 have m6 : w7.cell? ⟨W1.heap.size, 6, none⟩ = some (.slice A5 e.d.attrs.length c5) := zAA hx7 6 _ rfl
 have HX7 := Lib.hid hx7
 clear hx5 hr5 hx6 hkeepT hso hx7 hown5 hb5 ht5
 refine rdy 12 (fun K hK => ?_)
 go_simp
 rw [hw6.out]
 refine hK.out _ _ (HKS.out _ HT6.out) (fun hHeld => ?_)
 clear hK K
 try go_frame
 refine tkv 13 (h := ?_)
 refine rdy 14 (fun K hK => ?_)
 go_simp
 rw [hw7.out]
 refine hK.out _ _ (HKS.out _ HT7.out) (fun hHeld => ?_)
 clear hK K
 try go_frame
 refine wpAnyH_done (by kernel_rfl) ?_ _
 clear hHeld
 go_wp2_with (refine wpList_store_row rfl 49 (.tmp 4) (.tmp 38) rfl w.heap.size (nodeR id e (.slice A5 e.d.attrs.length c5)) rfl rfl 49 nodeZ HR7.out (by kernel_rfl) rfl (zF2 _ _ _ _ _) ?_)
 try simp only [Exit.inBlock, Exit.then]
 refine bodyPost_ret (zCi Tryz.results19 _ _ w.heap.size 49 (nodeR id e (.slice A5 e.d.attrs.length c5)) (0, 0) _ rfl (setRow_heap _ _ _ _ _ _ HR7.out) Tryz.underlying49 rfl (by kernel_rfl)) rfl ?_
 refine ⟨A5, c5, rfl, zAD HA7.out fun b hb => setRow_other _ _ _ _ (fun e' => ?_), ?_⟩
 ·have h1 := zAo (World.ownsRow.mono HA7.out (Nat.zero_le _)) HR7.out (fun cur h => by injection h with _ h _; exact absurd h (by decide))
  exact h1 (by rw [hb, e'])
 ·have h1 := HB7.out
  exact ⟨h1.os, h1.tape, h1.output, by rw [setRow_size]; exact h1.size, fun b hb => (setRow_other _ _ _ _ (by omega)).trans (h1.block b hb)⟩
end
end
section
open Go.RowKit Go.Shelf
def DoP (t mb : Nat) (y : Lay) (f : Fo) (w : World) (a : Ans) (w' : World) : Prop := ∃ f' : Fo, a.1 = f'.flat 0 ∧ InvF f' a.2.1 ∧ TP t mb y (f.ent 0) w (f'.ent 0) (rootF f') a.2.1 f'.cnt w'
def DoI (t mb : Nat) (y : Lay) (f : Fo) (w : World) (a : Ans) (er : Ending) (w' : World) : Prop := er = .returned (.tuple #[.int .i64 a.2.2.1, .int .i64 a.2.2.2]) ∧ DoP t mb y f w a w'
def DoE (t mb : Nat) (y : Lay) (f : Fo) (w : World) (a : Ans) (er : Ending) (w' : World) : Prop := a.2.2.1 = 0 ∧ er = .returned (.int .i64 a.2.2.2) ∧ DoP t mb y f w a w'
section
variable {w : World} {t mb : Nat} {y : Lay} {f : Fo} {next : Int}
theorem zA0 (h : TreeAt w t mb y (f.ent 0) (rootF f) next f.cnt) (hi : InvF f next) {w' : World} (hb : Below w.heap.size w w') (id e : Int) : DoP t mb y f w (f.flat 0, next, id, e) w' :=
 ⟨f, rfl, hi, mb, y, h.below hb, Grows.of_below hb⟩
theorem zLu (h : TreeAt w t mb y (f.ent 0) (rootF f) next f.cnt) (hi : InvF f next) (l : List ItemD) (A : Option Addr) (c B : Nat) (hl : StandI (Mine t mb y (f.ent 0)) w B A l) (hBw : B ≤ w.heap.size) (hs : SmallItems l) :
  Calls Tryz.prog 26 #[.pointer (some ⟨t, 0, none⟩), .slice A l.length c] w (DoI t mb y f w (loadL (f.flat 0) next l)) := by
 obtain ⟨n1, n2⟩ := hi.nx
 have hck : Hid (checkL l = ((checkL l).1, (checkL l).2)) := rfl
 unfold loadL
 by_cases h0 : (checkL l).2 = 0
 ·rw [if_neg (by simpa using h0)]
  rw [h0] at hck
  by_cases hm : 2147483647 < next + (l.length : Int)
  ·rw [if_pos hm]
   refine (zIj h l A c (hl.now.more hBw) hs _ hck (by omega) (by omega) hm).mono ?_
   rintro er w' ⟨rfl, hb⟩
   exact ⟨rfl, zA0 h hi hb _ _⟩
  ·rw [if_neg hm]
   obtain ⟨F, q1, q2, _, _, s2, q3, q4, q5, q6⟩ := zJc h0 n1 (show next + (l.length : Int) ≤ 2147483647 by omega)
   refine (zKJ h l A c B hl hBw hs _ hck n1 n2 (by omega) s2 q3).mono ?_
   rintro er w' ⟨rfl, htp⟩
   rw [q4, q5, q6] at htp
   exact ⟨rfl, F, q2.symm, q1, htp⟩
 ·rw [if_pos h0]
  refine (zLI l A c (hl.now.more hBw) hs _ _ hck h0).mono ?_
  rintro er w' ⟨rfl, hb⟩
  exact ⟨rfl, zA0 h hi hb _ _⟩
theorem zKI (h : TreeAt w t mb y (f.ent 0) (rootF f) next f.cnt) (hi : InvF f next) {id : Int} (hw : wfI id) (pl : Int) (l : List ItemD) (A : Option Addr) (c B : Nat) (hl : StandI (Mine t mb y (f.ent 0)) w B A l) (hBw : B ≤ w.heap.size) (hs : SmallItems l) :
  Calls Tryz.prog 27 #[.pointer (some ⟨t, 0, none⟩), .int .i64 id, .int .i64 pl, .slice A l.length c] w (DoI t mb y f w (insertL (f.flat 0) next id pl l)) := by
 obtain ⟨n1, n2⟩ := hi.nx
 have hcn := hi.cnt
 cases he : f.ent 0 id with
 | none =>
  unfold insertL
  rw [zDE he]
  refine (zIh h hw he pl _).mono ?_
  rintro er w' ⟨rfl, rfl⟩
  exact ⟨rfl, zA0 h hi (Below.refl _ _) _ _⟩
 | some e =>
  obtain ⟨lv, ks, A1, B1, hst, hkids, _, hlv, _, hLev, _⟩ := hi.stand he
  have hkn : e.kids.length ≤ 1000000 := by have := hi.kidsN id e he; omega
  unfold insertL
  rw [hst.find]
  simp only [hst.get]
  rw [hst.kids_len, ← hkids]
  show Calls _ _ _ _ (DoI t mb y f w (if e.d.kind ≠ 1 then _ else _))
  by_cases hk : e.d.kind = 1
  ·rw [if_neg (by simpa using hk)]
   by_cases hp : pl < 0 ∨ (e.kids.length : Int) < pl
   ·rw [if_pos hp]
    refine (zFN h hw he hk hkn pl hp _).mono ?_
    rintro er w' ⟨rfl, rfl⟩
    exact ⟨rfl, zA0 h hi (Below.refl _ _) _ _⟩
   ·rw [if_neg hp]
    obtain ⟨m, rfl⟩ : ∃ m : Nat, pl = (m : Int) := ⟨pl.toNat, by omega⟩
    have hpm : m ≤ e.kids.length := by omega
    have hfo : Hid (forestL l = ((forestL l).1, (forestL l).2)) := rfl
    by_cases h0 : (forestL l).2 = 0
    ·rw [if_neg (by simpa using h0)]
     rw [h0] at hfo
     obtain ⟨_, _, _, _, _, _, d0, _, z, hz, hzd⟩ := zCb l _ hfo.out
     obtain ⟨dp, hdp⟩ : ∃ dp, (forestL l).1 = dp := ⟨_, rfl⟩
     rw [hdp] at hfo d0 hzd ⊢
     show Calls _ _ _ _ (DoI t mb y f w (if 40 ≤ lv + 1 + dp then _ else _))
     have hd1 : dp ≤ 1000000000 := by
      -- a forest's levels rise by one at most
      have hle : ∀ (m : Nat) (q : List ItemD) (a : ItemD), q.length ≤ m → Steps (a :: q) → ∀ x ∈ q, x.level ≤ a.level + (q.length : Int) := by
       intro m
       induction m with
       | zero => intro q a hq _ x hx; have : q = [] := List.length_eq_zero_iff.1 (by omega); rw [this] at hx; cases hx
       | succ m ih =>
        intro q a hq hst x hx
        cases q with
        | nil => cases hx
        | cons b q =>
         have h1 := hst.1
         unfold stepOk at h1
         have h2 : b.level ≤ a.level + 1 := by split at h1 <;> omega
         rcases List.mem_cons.1 hx with rfl | hx
         ·simp; omega
         ·have := ih q b (by simp at hq; omega) hst.2 x hx
          simp; omega
      obtain ⟨x0, r0, e0, e1, e2, _⟩ := zCb l _ hfo.out
      rw [e0] at hz e2
      have hlen := hs.1
      rw [e0] at hlen
      simp at hlen
      rcases List.mem_cons.1 hz with rfl | hz
      ·omega
      ·have := hle _ r0 x0 (Nat.le_refl _) e2 z hz
       omega
     have hlt : (lv.toNat : Int) = lv := Int.toNat_of_nonneg hst.lv0
     by_cases hdeep : 40 ≤ lv + 1 + dp
     ·rw [if_pos hdeep]
      refine (zGQ h hw he hk hkn m hpm l A c B hl.now hBw hs dp hfo ⟨d0, hd1⟩ hi.wf lv.toNat (by omega) hLev (by omega)).mono ?_
      rintro er w' ⟨rfl, hb⟩
      exact ⟨rfl, zA0 h hi hb _ _⟩
     ·rw [if_neg hdeep]
      rw [Fo.flat_len]
      by_cases hm : 1000 < f.cnt + l.length ∨ 2147483647 < next + (l.length : Int)
      ·rw [if_pos hm]
       refine (zGR h hw he hk hkn m hpm l A c B hl.now hBw hs dp hfo ⟨d0, hd1⟩ hi.wf lv.toNat (by omega) hLev (by omega) (by omega) (by omega) (by omega) hm).mono ?_
       rintro er w' ⟨rfl, hb⟩
       exact ⟨rfl, zA0 h hi hb _ _⟩
      ·rw [if_neg hm]
       obtain ⟨f', q1, q2, q3, s2, q4, q5, q6, q7⟩ := zGl hi hst hk m (by rw [← hkids]; exact hpm) hfo.out (by omega) (by omega) (show next + (l.length : Int) ≤ 2147483647 by omega)
       refine (zHr h hw he hk (fun id e he => by have := hi.kidsN id e he; omega) m hpm l A c B hl hBw hs dp hfo ⟨d0, hd1⟩ hi.wf lv.toNat (by omega) hLev (by omega) n1 n2 (by omega) (by omega) s2 q4).mono ?_
       rintro er w' ⟨rfl, htp⟩
       rw [q5, q6, q7] at htp
       exact ⟨rfl, f', q2.symm, q1, htp⟩
    ·rw [if_pos h0]
     refine (zEl h hw he hk hkn m hpm l A c B hl.now hBw hs _ _ hfo h0).mono ?_
     rintro er w' ⟨rfl, hb⟩
     exact ⟨rfl, zA0 h hi hb _ _⟩
  ·rw [if_pos hk]
   refine (zHq h hw he hk pl _).mono ?_
   rintro er w' ⟨rfl, rfl⟩
   exact ⟨rfl, zA0 h hi (Below.refl _ _) _ _⟩
theorem zGm {g : Int → Option Ent} {root : Int} {n : Nat} (hwf : ∀ id e, g id = some e → wfI id) {q p : Int} {d : NodeD} {ks : Fo} (ha : Agr g q (.cons p d ks .nil)) (hc : ks.cnt ≤ 100000) (y1 : Lay) : IterB t mb y1 g root next n p 0 (visT 0 (p, d, ks)) :=
 fun w' bt bi bl ht h1 h2 h3 => zCQ hwf (.cons p d ks .nil) q 0 ha (by omega) (by simp [Fo.cnt]; omega) 0 p d ks rfl w' bt bi bl ht h1 h2 h3
theorem zKG (h : TreeAt w t mb y (f.ent 0) (rootF f) next f.cnt) (hi : InvF f next) {id : Int} (hw : wfI id) :
  Calls Tryz.prog 28 #[.pointer (some ⟨t, 0, none⟩), .int .i64 id] w (DoE t mb y f w (deleteL (f.flat 0) next id)) := by
 have hcn := hi.cnt
 cases he : f.ent 0 id with
 | none =>
  unfold deleteL
  rw [zDE he]
  refine (zIf h hw he).mono ?_
  rintro er w' ⟨rfl, hb⟩
  exact ⟨rfl, rfl, zA0 h hi hb _ _⟩
 | some e =>
  obtain ⟨lv, ks, A1, B1, hst, hkids, _, hlv, _, hLev, _⟩ := hi.stand he
  unfold deleteL
  rw [hst.find]
  show Calls _ _ _ _ (DoE t mb y f w (if A1.length = 0 then _ else _))
  by_cases hr : id = rootF f
  ·rw [if_pos (hst.first.2 hr)]
   refine (zGO h hw he hr).mono ?_
   rintro er w' ⟨rfl, hb⟩
   exact ⟨rfl, rfl, zA0 h hi hb _ _⟩
  ·rw [if_neg (fun h' => hr (hst.first.1 h'))]
   rcases hi.rootOf he with ⟨hr', _⟩ | ⟨_, hp0, hpm, pe, hpe, hmem, hnd⟩
   ·exact absurd hr' hr
   obtain ⟨k, k1, k2, k3⟩ := zJV pe.kids id hmem
   obtain ⟨hi', hroot⟩ := zBg hi hst hr
   have hag := zIx hi hst he (some { pe with kids := pe.kids.eraseIdx k })
   have hks := (Fo.sub_ent f id 0 0 lv e.d ks hi.nd hst.sub)
   have hwf1 : ∀ id' e', fset (f.ent 0) e.par (some { pe with kids := pe.kids.eraseIdx k }) id' = some e' → wfI id' := fun id' e' he' => by
    unfold fset at he'
    split at he'
    ·rename_i h'; rw [h']; exact hi.wf _ _ hpe
    ·exact hi.wf _ _ he'
   refine (zHp h hi.wf he hr hpe k k1 k2 (by have := hi.kidsN _ _ hpe; omega) _ rfl (visT 0 (id, e.d, ks)) (by rw [zDM]; have := hks.2.2.2.2.2.1; omega) (fun y1 => zGm hwf1 hag (by have := hks.2.2.2.2.2.1; omega) y1) (fun x hx => ?_) (by rw [zCq]; exact List.nodup_cons.2 ⟨hks.2.2.2.1, hks.2.2.1⟩)).mono ?_
   ·have hx' : x.1 ∈ id :: ks.ids := by rw [← zCq id e.d ks 0]; exact List.mem_map_of_mem hx
    have hxf : x.1 ∈ f.ids := by
     rcases List.mem_cons.1 hx' with h1 | h1
     ·rw [h1]; exact hst.mem
     ·exact hks.2.2.2.2.1 _ h1
    obtain ⟨ex, hex⟩ := Fo.ent_some f 0 x.1 hxf
    unfold fset
    by_cases hxp : x.1 = e.par
    ·exact ⟨_, by rw [if_pos hxp]⟩
    ·exact ⟨ex, by rw [if_neg hxp, hex]⟩
   ·rintro er w' ⟨rfl, htp⟩
    rw [zCq, zH3 hi hst he hpe k3, zDM] at htp
    have hc := zGb hst
    rw [show f.cnt - (1 + ks.cnt) = (f.del id).cnt by omega, ← hroot] at htp
    exact ⟨rfl, rfl, f.del id, hst.without, hi', htp⟩
end
end
section
open Go.RowKit Go.Shelf
theorem zCx : ∀ (L : List RowD) (p : Int) (i : Nat), findL L p = some i → i < L.length ∧ p ∈ L.map (·.id)
 | [], _, _, h => by cases h
 | r :: L, p, i, h => by
  rw [findL] at h
  by_cases e : r.id = p
  ·rw [if_pos e] at h
   injection h with h
   subst h
   exact ⟨by simp, by simp [e]⟩
  ·rw [if_neg e] at h
   cases hf : findL L p with
   | none => rw [hf] at h; cases h
   | some j =>
    rw [hf] at h
    have h' : j + 1 = i := by simpa using h
    obtain ⟨h1, h2⟩ := zCx L p j hf
    exact ⟨by simp; omega, by simp only [List.map_cons, List.mem_cons]; exact .inr h2⟩
theorem zEN : ∀ (L : List RowD) (p : Int), findL L p = none → p ∉ L.map (·.id)
 | [], _, _ => by simp
 | r :: L, p, h => by
  rw [findL] at h
  by_cases e : r.id = p
  ·rw [if_pos e] at h; cases h
  ·rw [if_neg e] at h
   have := zEN L p (by
    cases hf : findL L p with
    | none => rfl
    | some j => rw [hf] at h; cases h)
   simp only [List.map_cons, List.mem_cons, not_or]
   exact ⟨fun h' => e h'.symm, this⟩
theorem zDX : ∀ (X Y : List RowD) (p : Int), findL (X ++ Y) p = match findL X p with
  | some i => some i
  | none => (findL Y p).map (· + X.length)
 | [], Y, p => by simp [findL]
 | r :: X, Y, p => by
  rw [List.cons_append, findL, findL]
  by_cases e : r.id = p
  ·rw [if_pos e, if_pos e]
  ·rw [if_neg e, if_neg e, zDX X Y p]
   cases findL X p with
   | some i => rfl
   | none =>
    cases findL Y p with
    | none => rfl
    | some j => simp; omega
section
variable {f : Fo} {p lv to lt : Int} {d dt : NodeD} {ks kt : Fo} {A B A2 B2 : List RowD}
theorem zH8 (hn : f.ids.Nodup) (hs : Stand f p lv d ks A B) (ht : Stand f to lt dt kt A2 B2) : (A.length ≤ A2.length ∧ A2.length < A.length + 1 + ks.cnt) ↔ (to = p ∨ to ∈ ks.ids) := by
 have hf := ht.find
 rw [hs.flat, zDX] at hf
 have hids := zHN hs
 rw [hids] at hn
 simp only [List.nodup_append, List.nodup_cons, List.mem_append, List.mem_cons, not_or] at hn
 obtain ⟨n1, ⟨⟨n2, n3⟩, n4, n5, n6⟩, n7⟩ := hn
 cases hA : findL A to with
 | some i =>
  rw [hA] at hf
  injection hf with hf
  obtain ⟨q1, q2⟩ := zCx A to i hA
  refine ⟨fun h => by omega, fun h => ?_⟩
  rcases h with h | h
  ·exact absurd rfl (n7 to q2 to (.inl h))
  ·exact absurd rfl (n7 to q2 to (.inr (.inl h)))
 | none =>
  rw [hA] at hf
  simp only [findL] at hf
  by_cases e : p = to
  ·rw [if_pos e] at hf
   simp at hf
   exact ⟨fun _ => .inl e.symm, fun _ => by omega⟩
  ·rw [if_neg e, zDX] at hf
   cases hk : findL (ks.flat (lv + 1)) to with
   | some i =>
    rw [hk] at hf
    simp at hf
    obtain ⟨q1, q2⟩ := zCx _ to i hk
    rw [Fo.flat_len] at q1
    rw [Fo.flat_ids] at q2
    exact ⟨fun _ => .inr q2, fun _ => by omega⟩
   | none =>
    rw [hk] at hf
    have hk' := zEN _ to hk
    rw [Fo.flat_ids] at hk'
    refine ⟨fun h => ?_, fun h => ?_⟩
    ·exfalso
     cases hB : findL B to with
     | none => rw [hB] at hf; simp at hf
     | some j =>
      rw [hB] at hf
      simp [Fo.flat_len] at hf
      omega
    ·rcases h with h | h
     ·exact absurd h.symm e
     ·exact absurd h hk'
theorem zLc (hs : Stand f p lv d ks A B) (lt : Int) : partL (((f.flat 0).drop A.length).take (endL (f.flat 0) A.length - A.length)) (lvlL (f.flat 0) A.length - lt - 1) = (Fo.cons p d ks .nil).flat (lt + 1) := by
 rw [hs.part, hs.lvl]
 have := Fo.flat_shift (.cons p d ks .nil) lv (lv - lt - 1)
 rw [show lv - (lv - lt - 1) = lt + 1 by omega] at this
 rw [← this]
 unfold partL
 simp [Fo.flat]
theorem zHJ (p : Int) (d : NodeD) (ks : Fo) (c : Int) : 40 ≤ c + maxLv (visT 0 (p, d, ks)) ↔ ∃ z ∈ (Fo.cons p d ks .nil).flat c, 40 ≤ z.x.level := by
 rw [zCp]
 have hge : ∀ x ∈ ((Fo.cons p d ks .nil).flat 0).map (fun r => (r.id, r.x.level)), 0 ≤ x.2 := fun x hx => by
  obtain ⟨r, hr, rfl⟩ := List.mem_map.1 hx
  exact Fo.flat_ge _ 0 r hr
 rw [zHT _ (by simp [Fo.flat]) hge]
 have hsh := Fo.flat_shift (.cons p d ks .nil) 0 (0 - c)
 rw [show (0 : Int) - (0 - c) = c by omega] at hsh
 rw [← hsh]
 constructor
 ·rintro ⟨x, hx, h⟩
  obtain ⟨r, hr, rfl⟩ := List.mem_map.1 hx
  exact ⟨_, List.mem_map.2 ⟨r, hr, rfl⟩, by show 40 ≤ r.x.level - (0 - c); simp at h; omega⟩
 ·rintro ⟨z, hz, h⟩
  obtain ⟨r, hr, rfl⟩ := List.mem_map.1 hz
  exact ⟨_, List.mem_map.2 ⟨r, hr, rfl⟩, by have h' : 40 ≤ r.x.level - (0 - c) := h; simp; omega⟩
end
section
variable {w : World} {t mb : Nat} {y : Lay} {f : Fo} {next : Int}
theorem zLv (h : TreeAt w t mb y (f.ent 0) (rootF f) next f.cnt) (hi : InvF f next) {id to : Int} (hw : wfI id) (hwt : wfI to) (pl : Int) :
  Calls Tryz.prog 29 #[.pointer (some ⟨t, 0, none⟩), .int .i64 id, .int .i64 to, .int .i64 pl] w (DoE t mb y f w (moveL (f.flat 0) next id to pl)) := by
 have hcn := hi.cnt
 by_cases hnone : f.ent 0 id = none ∨ f.ent 0 to = none
 ·have hm : moveL (f.flat 0) next id to pl = (f.flat 0, next, 0, 60) := by
   unfold moveL
   rcases hnone with h | h
   ·rw [zDE h]
   ·rw [zDE h]
    cases findL (f.flat 0) id <;> rfl
  rw [hm]
  refine (zLK h pl hw hwt hnone).mono ?_
  rintro er w' ⟨rfl, hb⟩
  exact ⟨rfl, rfl, zA0 h hi hb _ _⟩
 ·obtain ⟨e, he⟩ : ∃ e, f.ent 0 id = some e := by
   cases he : f.ent 0 id with
   | none => exact absurd (.inl he) hnone
   | some e => exact ⟨e, rfl⟩
  obtain ⟨pt, hpt⟩ : ∃ e, f.ent 0 to = some e := by
   cases he : f.ent 0 to with
   | none => exact absurd (.inr he) hnone
   | some e => exact ⟨e, rfl⟩
  obtain ⟨lv, ks, A1, B1, hs, hkids, _, hlv, _, hLev, _⟩ := hi.stand he
  obtain ⟨lt, kt, A2, B2, ht, hkt, _, hlt, _, hLevt, _⟩ := hi.stand hpt
  have hks := Fo.sub_ent f id 0 0 lv e.d ks hi.nd hs.sub
  have hkc := hks.2.2.2.2.2.1
  have hlt0 : (lt.toNat : Int) = lt := Int.toNat_of_nonneg ht.lv0
  have hrange := zH8 hi.nd hs ht
  have hxids : ∀ x, x ∈ (visT 0 (id, e.d, ks)).map (·.1) ↔ (x = id ∨ x ∈ ks.ids) := fun x => by rw [zCq]; simp
  have hwf := hi.wf
  obtain ⟨ans, hans⟩ : ∃ a, moveL (f.flat 0) next id to pl = a := ⟨_, rfl⟩
  have hm := hans
  unfold moveL at hm
  rw [hs.find, ht.find] at hm
  simp only [ht.get] at hm
  rw [show (pt.d.at lt).level = lt from rfl, zLc hs lt, hs.end] at hm
  rw [hans]
  have hag : Agr (f.ent 0) e.par (.cons id e.d ks .nil) := by
   have h1 := zIx hi hs he none
   obtain ⟨o1, o2⟩ := zDk f id 0 0 lv e.d ks e hi.nd hi.q0 hs.sub he
   refine ⟨?_, Fo.agr_of ks id _ hks.2.2.1 hks.2.1, trivial⟩
   rw [he, ← hkids]
  have hnl : (to ∉ (visT 0 (id, e.d, ks)).map (·.1)) → to ≠ id ∧ to ∉ ks.ids := fun hn => by
   rw [hxids] at hn
   exact ⟨fun h => hn (.inl h), fun h => hn (.inr h)⟩
  -- what stands when the node is taken out
  have hcutK : ∀ (k1 : Fo) (A3 B3 : List RowD), id ≠ rootF f → Stand (f.del id) to lt pt.d k1 A3 B3 → to ≠ id → to ∉ ks.ids → (k1.roots.length : Int) = (pt.kids.length : Int) - (if e.par = to then 1 else 0) ∧ k1.roots = (if to = e.par then pt.kids.erase id else pt.kids) := by
   intro k1 A3 B3 hr h3 h4 h5
   obtain ⟨hi', _⟩ := zBg hi hs hr
   obtain ⟨q1, he1, _⟩ := h3.ent hi'.nd
   rw [Fo.ent_del f id 0 0 lv e.d ks e hi.nd hi.q0 hs.sub he to, if_neg (by rintro (h | h); exact h4 h; exact h5 h), hpt] at he1
   have hk1 : k1.roots = if to = e.par then pt.kids.erase id else pt.kids := by
    by_cases htp : to = e.par
    ·rw [if_pos htp] at he1 ⊢
     injection he1 with he1
     injection he1 with _ _ he1
     exact he1.symm
    ·rw [if_neg htp] at he1 ⊢
     injection he1 with he1
     rw [he1]
   refine ⟨?_, hk1⟩
   rw [hk1]
   by_cases htp : to = e.par
   ·rw [if_pos htp, if_pos htp.symm]
    rcases hi.rootOf he with ⟨hr', _⟩ | ⟨_, _, _, pe, hpe, hmem, _⟩
    ·exact absurd hr' hr
    ·rw [← htp, hpt] at hpe
     injection hpe with hpe
     rw [← hpe] at hmem
     have := List.length_erase_of_mem hmem
     have hpos : 0 < pt.kids.length := List.length_pos_of_mem hmem
     omega
   ·rw [if_neg htp, if_neg (fun h => htp h.symm)]; omega
  refine zIk h pl hw hwt he hpt _ (fun hr w' hb => ?_) (fun hr hk w' hb => ?_) (visT 0 (id, e.d, ks)) (fun hr hk hxs w' hb => ?_) (by rw [zDM]; omega) (fun x hx => ?_)
   (zGm hwf hag (by omega) y) hwf lt.toNat (by omega) hLevt (by have := hi.kidsN _ _ hpt; omega) _ rfl ?_ ?_ ?_
  ·have hm' : ans = (f.flat 0, next, 0, 62) := by rw [← hm, if_pos (hs.first.2 hr)]
   rw [hm']
   exact ⟨rfl, rfl, zA0 h hi hb _ _⟩
  ·have hm' : ans = (f.flat 0, next, 0, 68) := by rw [← hm, if_neg (fun h' => hr (hs.first.1 h'))]; exact if_pos hk
   rw [hm']
   exact ⟨rfl, rfl, zA0 h hi hb _ _⟩
  ·have hm' : ans = (f.flat 0, next, 0, 61) := by
    rw [← hm, if_neg (fun h' => hr (hs.first.1 h')), if_neg (fun h' => h' hk), if_pos (hrange.2 ((hxids to).1 hxs))]
   rw [hm']
   exact ⟨rfl, rfl, zA0 h hi hb _ _⟩
  ·rw [zCp] at hx
   obtain ⟨r, hr, rfl⟩ := List.mem_map.1 hx
   refine ⟨Fo.flat_ge _ 0 r hr, ?_⟩
   have hsh := Fo.flat_shift (.cons id e.d ks .nil) lv lv
   rw [Int.sub_self] at hsh
   rw [← hsh] at hr
   obtain ⟨z, hz, rfl⟩ := List.mem_map.1 hr
   have hzf : z ∈ f.flat 0 := by
    rw [hs.flat]
    simp only [Fo.flat, List.append_nil, List.mem_cons, List.mem_append] at hz ⊢
    rcases hz with h | h
    ·exact .inr (.inl h)
    ·exact .inr (.inr (.inl h))
   have := (hi.ok z hzf).1
   have := hs.lv0
   show z.x.level - lv ≤ 1000000
   omega
  all_goals
   intro hr hk hnx
   obtain ⟨hnt, hnk⟩ := hnl hnx
   obtain ⟨hi', hroot⟩ := zBg hi hs hr
   obtain ⟨k1, A3, B3, hs1, hstep⟩ := zJj hi hs ht hr hnt hnk
   obtain ⟨hlen, hroots⟩ := hcutK k1 A3 B3 hr hs1 hnt hnk
   rw [if_neg (fun h' => hr (hs.first.1 h')), if_neg (fun h' => h' hk), if_neg (fun h' => by rcases hrange.1 h' with h | h; exact hnt h; exact hnk h), hs.without] at hm
   simp only [hs1.find, hs1.kids_len] at hm
   rw [hlen] at hm
  ·intro hpl w' hb
   have hm' : ans = (f.flat 0, next, 0, 69) := by rw [← hm, if_pos hpl]
   rw [hm']
   exact ⟨rfl, rfl, zA0 h hi hb _ _⟩
  ·intro hp0 hp1 hdeep w' hb
   have hm' : ans = (f.flat 0, next, 0, 65) := by
    rw [← hm, if_neg (by omega), if_pos]
    rw [List.any_eq_true]
    obtain ⟨z, hz, hz'⟩ := (zHJ id e.d ks (lt + 1)).1 (by omega)
    exact ⟨z, hz, decide_eq_true hz'⟩
   rw [hm']
   exact ⟨rfl, rfl, zA0 h hi hb _ _⟩
  ·intro hp0 hp1 hdeep
   have hnd : ∀ z ∈ (Fo.cons id e.d ks .nil).flat (lt + 1), z.x.level < 40 := fun z hz => by
    have := (zHJ id e.d ks (lt + 1)).2
    by_cases hz' : 40 ≤ z.x.level
    ·have := this ⟨z, hz, hz'⟩; omega
    ·omega
   have hpk : pl.toNat ≤ k1.roots.length := by omega
   obtain ⟨s1, s2, s3, s4, s5⟩ := hstep pl.toNat hpk hk hnd
   have hm' : ans = (((f.del id).upd to (Fo.insAt pl.toNat (.cons id e.d ks .nil))).flat 0, next, 0, 0) := by
    rw [← hm, if_neg (by omega), if_neg]
    ·rw [s4]
    ·rw [List.any_eq_true]
     rintro ⟨z, hz, hz'⟩
     have := hnd z hz
     have := of_decide_eq_true hz'
     omega
   rcases hi.rootOf he with ⟨hr', _⟩ | ⟨_, hp0', hpm, pe, hpe, hmem, hndk⟩
   ·exact absurd hr' hr
   obtain ⟨k, c1, c2, c3⟩ := zJV pe.kids id hmem
   obtain ⟨o1, o2⟩ := zDk f id 0 0 lv e.d ks e hi.nd hi.q0 hs.sub he
   have hdel := zEL hi hs he hpe c3
   obtain ⟨qd, hed, _⟩ := hs1.ent hi'.nd
   have hg1 : fset (f.ent 0) e.par (some { pe with kids := pe.kids.eraseIdx k }) to = some ⟨qd, pt.d, k1.roots⟩ := by rw [← hdel to hnt hnk, hed]
   refine ⟨pe, k, _, ⟨qd, pt.d, k1.roots⟩, e, _, hpe, c1, c2, by have := hi.kidsN _ _ hpe; omega, rfl, hg1, hpk, by have h9 : k1.roots.length ≤ 1000 := hi'.kidsN _ _ hed; show k1.roots.length ≤ 1000000; omega, rfl, ?_, fun w' htp => ?_⟩
   ·rw [zAF _ _ (fun h => hnt h.symm), zAF _ _ (fun h => o1 h.symm), he]
   ·rw [hm']
    refine ⟨rfl, rfl, _, rfl, s1, ?_⟩
    have hG : fset (fset (fset (f.ent 0) e.par (some { pe with kids := pe.kids.eraseIdx k })) to (some { (⟨qd, pt.d, k1.roots⟩ : Ent) with kids := k1.roots.take pl.toNat ++ id :: k1.roots.drop pl.toNat })) id (some { e with par := to }) = ((f.del id).upd to (Fo.insAt pl.toNat (.cons id e.d ks .nil))).ent 0 := by
     rw [s5]
     funext x
     unfold addG
     by_cases hx : x = id
     ·subst hx
      rw [zAI, Fo.ent, if_pos rfl, ← hkids]
     ·rw [zAF _ _ hx, Fo.ent, if_neg hx]
      by_cases hxk : x ∈ ks.ids
      ·obtain ⟨ex, hex⟩ := Fo.ent_some ks id x hxk
       have hxt : x ≠ to := fun h => hnk (h ▸ hxk)
       have hxe : x ≠ e.par := fun h => o2 (h ▸ hxk)
       rw [zAF _ _ hxt, zAF _ _ hxe, hks.2.1 x hxk, hex]
      ·rw [Fo.ent_not ks id x hxk]
       simp only [Fo.ent]
       by_cases hxt : x = to
       ·subst hxt
        rw [zAI, if_pos rfl, hed]
        simp [Fo.roots]
       ·rw [zAF _ _ hxt, if_neg hxt, hdel x hx hxk]
    rw [← hG, s2, s3]
    exact htp
end
end
section
open Go.RowKit Go.Shelf
section
variable {w : World} {t mb : Nat} {y : Lay} {f : Fo} {next : Int}
end
end
section
open Go.RowKit Go.Shelf
def itemsAt (L : List RowD) (id : Int) : List ItemD := match findL L id with
 | some k => itemsL L k
 | none => []
section
variable {w : World} {t mb : Nat} {y : Lay} {f : Fo} {next : Int}
theorem zLM (h : TreeAt w t mb y (f.ent 0) (rootF f) next f.cnt) (hi : InvF f next) :
  Calls Tryz.prog 30 #[.pointer (some ⟨t, 0, none⟩)] w fun e w' => ∃ v, e = .returned v ∧ intRow w' v f.ids ∧ Below w.heap.size w w' ∧ ∀ b, v.ownBlock = some b → w.heap.size ≤ b := by
 have hcn := hi.cnt
 cases f with
 | nil => exact zIn [] (by simp) w h fun w' bt bi bl ht h1 h2 _ => zJq 0 ⟨by omega, by omega⟩ rfl w' bt bi bl ht h1 h2
 | cons id d ks r =>
  obtain ⟨rfl, _⟩ := hi.one id d ks r rfl
  have hag := Fo.agr_ent (.cons id d ks .nil) 0 hi.nd
  have hc : ks.cnt ≤ 1000 := by simp only [Fo.cnt] at hcn; omega
  have := zIn (visT 0 (id, d, ks)) (by rw [zDM]; omega) w h (zGm hi.wf hag (by omega) y)
  rw [zCq] at this
  rw [show (Fo.cons id d ks .nil).ids = id :: ks.ids by simp [Fo.ids]]
  exact this
end
/-! ## What the calls do to ids -/
def IdsP (L : List RowD) (next : Int) (o : OpD) (a : Ans) : Prop := a.2.1 = next + (if a.2.2.2 = 0 ∧ (o.kind = 0 ∨ o.kind = 1) then (o.l.length : Int) else 0) ∧ (a.2.2.2 = 0 → (o.kind = 0 ∨ o.kind = 1) → a.2.2.1 = next) ∧ (a.2.2.2 ≠ 0 → a = (L, next, 0, a.2.2.2))
theorem IdsP.no {L : List RowD} {next : Int} {o : OpD} (e : Int) (he : e ≠ 0) : IdsP L next o (L, next, 0, e) := by
 refine ⟨?_, fun h => absurd h he, fun _ => rfl⟩
 rw [if_neg (fun h => he h.1)]
 show next = next + 0
 omega
theorem IdsP.ok {L L' : List RowD} {next : Int} {o : OpD} (h : o.kind ≠ 0 ∧ o.kind ≠ 1) : IdsP L next o (L', next, 0, 0) := by
 refine ⟨?_, fun _ h' => by omega, fun h => absurd rfl h⟩
 rw [if_neg (by omega)]
 show next = next + 0
 omega
theorem IdsP.more {L L' : List RowD} {next : Int} {o : OpD} (h : o.kind = 0 ∨ o.kind = 1) : IdsP L next o (L', next + (o.l.length : Int), next, 0) := by
 refine ⟨?_, fun _ _ => rfl, fun h => absurd rfl h⟩
 rw [if_pos ⟨rfl, h⟩]
end
section
open Go.RowKit
def opVal (o : OpD) (A : Option Addr) (c : Nat) : Array Value := #[.int .i64 o.kind, .int .i64 o.id, .int .i64 o.to, .int .i64 o.pl, strV o.name, strV o.text, .slice A o.l.length c]
def OpCells (w : World) (ad : Addr) (k : Nat) (o : OpD) (A : Option Addr) (c : Nat) : Prop :=
 w.cell? (ad.add (k * 7)) = some (.int .i64 o.kind) ∧ w.cell? ⟨(ad.add (k * 7)).block, (ad.add (k * 7)).off + 1, none⟩ = some (.int .i64 o.id) ∧ w.cell? ⟨(ad.add (k * 7)).block, (ad.add (k * 7)).off + 2, none⟩ = some (.int .i64 o.to) ∧
 w.cell? ⟨(ad.add (k * 7)).block, (ad.add (k * 7)).off + 3, none⟩ = some (.int .i64 o.pl) ∧ w.cell? ⟨(ad.add (k * 7)).block, (ad.add (k * 7)).off + 4, none⟩ = some (strV o.name) ∧ w.cell? ⟨(ad.add (k * 7)).block, (ad.add (k * 7)).off + 5, none⟩ = some (strV o.text) ∧
 w.cell? ⟨(ad.add (k * 7)).block, (ad.add (k * 7)).off + 6, none⟩ = some (.slice A o.l.length c)
def OpsAt (w : World) (B : Nat) (A : Option Addr) (l : List OpD) : Prop :=
 0 < l.length → ∃ ad, A = some ad ∧ ad.block < B ∧ ∀ k o, l[k]? = some o → ∃ A' c, ItemsAt w B A' o.l ∧ o.l.length ≤ c ∧ OpCells w ad k o A' c
def SmallOp (o : OpD) : Prop := (wfI o.kind ∧ wfI o.id ∧ wfI o.to ∧ wfI o.pl) ∧ o.name.length ≤ 1000000000 ∧ o.text.length ≤ 1000000000 ∧ SmallItems o.l
def SmallOps (l : List OpD) : Prop := l.length ≤ 1048576 ∧ ∀ o ∈ l, SmallOp o ∧ o.l.length ≤ 1048576
variable {w w' : World} {B B' : Nat} {A : Option Addr} {l : List OpD}
theorem OpsAt.keep (h : OpsAt w B A l) (hk : ∀ p : Addr, p.block < B → w'.cell? p = w.cell? p) : OpsAt w' B A l := fun hp => by
 obtain ⟨ad, h1, h2, h3⟩ := h hp
 refine ⟨ad, h1, h2, fun k o ho => ?_⟩
 obtain ⟨A', c, k1, k2, k3, k4, k5, k6, k7, k8, k9⟩ := h3 k o ho
 have hb : (ad.add (k * 7)).block < B := by rw [zAC]; exact h2
 exact ⟨A', c, k1.keep hk, k2, (hk _ (by exact hb)).trans k3, (hk _ (by exact hb)).trans k4, (hk _ (by exact hb)).trans k5, (hk _ (by exact hb)).trans k6, (hk _ (by exact hb)).trans k7, (hk _ (by exact hb)).trans k8, (hk _ (by exact hb)).trans k9⟩
theorem OpsAt.more (h : OpsAt w B A l) (hB : B ≤ B') : OpsAt w B' A l := fun hp => by
 obtain ⟨ad, h1, h2, h3⟩ := h hp
 refine ⟨ad, h1, by omega, fun k o ho => ?_⟩
 obtain ⟨A', c, k1, k2⟩ := h3 k o ho
 exact ⟨A', c, k1.more hB, k2⟩
theorem OpsAt.below (h : OpsAt w B A l) (hb : Below B w w') : OpsAt w' B A l := h.keep fun _ hp => hb.cell hp
end
section
open Go.RowKit Go.Shelf
section
variable {w W1 : World} {t mb : Nat} {y : Lay} {f : Fo} {next : Int}
theorem DoP.back {a : Ans} {w' : World} (h : DoP t mb y f W1 a w') (hb : Below w.heap.size w W1) : DoP t mb y f w a w' := by
 obtain ⟨f', h1, h2, mb', y', h3, h4⟩ := h
 exact ⟨f', h1, h2, mb', y', h3, Grows.trans (Grows.of_below hb) h4⟩
end
end
section
open Go.RowKit Go.Shelf
def docD : List ItemD := [⟨0, 1, [97], [], []⟩, ⟨1, 2, [], [120], []⟩]
def docD2 : List ItemD := [⟨0, 1, [98], [], []⟩, ⟨1, 2, [], [121], []⟩]
def rows1 : List RowD := [⟨1, ⟨0, 1, [97], [], []⟩⟩, ⟨2, ⟨1, 2, [], [120], []⟩⟩]
def rows2 : List RowD := [⟨1, ⟨0, 1, [97], [], []⟩⟩, ⟨2, ⟨1, 2, [], [120], []⟩⟩, ⟨3, ⟨1, 1, [98], [], []⟩⟩, ⟨4, ⟨2, 2, [], [121], []⟩⟩]
def rows3 : List RowD := [⟨1, ⟨0, 1, [97], [], []⟩⟩, ⟨3, ⟨1, 1, [98], [], []⟩⟩, ⟨4, ⟨2, 2, [], [121], []⟩⟩, ⟨2, ⟨1, 2, [], [120], []⟩⟩]
end
section
open Go.RowKit Go.Shelf
def manyL (l : List OpD) : Nat := (l.map (·.l.length)).sum
def fewL (l : List OpD) : Bool := decide (l.length ≤ 80) && decide (manyL l ≤ 2500)
end
section
open Go.RowKit Go.Shelf
def TreeM (M : Nat → Prop) (t : Nat) (f : Fo) (next : Int) (w : World) : Prop := ∃ mb y, TreeAt w t mb y (f.ent 0) (rootF f) next f.cnt ∧ InvF f next ∧ (∀ b, Mine t mb y (f.ent 0) b → M b) ∧ ∀ b, M b → b < w.heap.size
section
variable {M : Nat → Prop} {t : Nat} {f : Fo} {next : Int} {w w' : World}
theorem TreeM.below (h : TreeM M t f next w) (hb : Below w.heap.size w w') : TreeM M t f next w' := by
 obtain ⟨mb, y, h1, h2, h3, h4⟩ := h
 exact ⟨mb, y, h1.below hb, h2, h3, fun b hm => Nat.lt_of_lt_of_le (h4 b hm) hb.size⟩
theorem TreeM.turn {M' : Nat → Prop} (h : TreeM M t f next w) (ht : Turn M' w w') (hd : ∀ b, M b → ¬ M' b) : TreeM M t f next w' := by
 obtain ⟨mb, y, h1, h2, h3, h4⟩ := h
 exact ⟨mb, y, h1.turn ht fun b hm => hd b (h3 b hm), h2, h3, fun b hm => Nat.lt_of_lt_of_le (h4 b hm) ht.size⟩
theorem TreeM.inv (h : TreeM M t f next w) : InvF f next := by obtain ⟨_, _, _, h, _⟩ := h; exact h
theorem TreeM.lt (h : TreeM M t f next w) {b : Nat} (hb : M b) : b < w.heap.size := by obtain ⟨_, _, _, _, _, h⟩ := h; exact h b hb
theorem zK9 (w : World) : Calls Tryz.prog 25 #[] w fun e w' => e = .returned (.pointer (some ⟨w.heap.size + 1, 0, none⟩)) ∧ Below w.heap.size w w' ∧ TreeM (fun b => b = w.heap.size + 1 ∨ b = w.heap.size) (w.heap.size + 1) .nil 1 w' := by
 refine (zLL w).mono ?_
 rintro e w' ⟨rfl, hb, y, ht⟩
 refine ⟨rfl, hb, _, y, ht, InvF.new, fun b hm => ?_, fun b hm => ?_⟩
 ·rcases hm with rfl | rfl | ⟨_, _, h, _⟩
  ·exact .inl rfl
  ·exact .inr rfl
  ·cases h
 ·rcases hm with rfl | rfl
  ·exact ht.lt (.inl rfl)
  ·exact ht.lt (.inr (.inl rfl))
theorem zLt (h : TreeM M t f next w) : Calls Tryz.prog 24 #[.pointer (some ⟨t, 0, none⟩)] w fun e w' => e = .returned (.int .i64 (f.cnt : Int)) ∧ w = w' := by
 obtain ⟨_, _, h, _⟩ := h
 exact zLH h
theorem zGV (h : TreeM M t f next w) : Calls Tryz.prog 173 #[.pointer (some ⟨t, 0, none⟩)] w fun e w' => e = .returned (.int .i64 (rootF f)) ∧ w = w' := by
 obtain ⟨_, _, h, _⟩ := h
 exact zKP h
theorem zHA (h : TreeM M t f next w) : Calls Tryz.prog 30 #[.pointer (some ⟨t, 0, none⟩)] w fun e w' => ∃ v, e = .returned v ∧ intRow w' v f.ids ∧ Below w.heap.size w w' ∧ (∀ b, v.ownBlock = some b → w.heap.size ≤ b) := by
 obtain ⟨_, _, h, hi, _⟩ := h
 exact zLM h hi
def DoM (M : Nat → Prop) (t : Nat) (w : World) (a : Ans) (w' : World) : Prop := ∃ (M' : Nat → Prop) (f' : Fo), a.1 = f'.flat 0 ∧ TreeM M' t f' a.2.1 w' ∧ Grows M M' w w'
def DoIn (M : Nat → Prop) (t : Nat) (w : World) (a : Ans) (er : Ending) (w' : World) : Prop := er = .returned (.tuple #[.int .i64 a.2.2.1, .int .i64 a.2.2.2]) ∧ DoM M t w a w'
theorem DoP.toM {mb : Nat} {y : Lay} {a : Ans} (h : DoP t mb y f w a w') (hm : ∀ b, Mine t mb y (f.ent 0) b → M b) : DoM M t w a w' := by
 obtain ⟨f', h1, h2, mb', y', h3, h4⟩ := h
 refine ⟨Mine t mb' y' (f'.ent 0), f', h1, ⟨mb', y', h3, h2, fun _ h => h, fun b hb => h3.lt hb⟩, h4.1.mono hm, fun b hb => ?_⟩
 rcases h4.2 b hb with h | h
 ·exact .inl (hm b h)
 ·exact .inr h
theorem Grows.low {M M' : Nat → Prop} {N : Nat} {w w' : World} (h : Grows M M' w w') (hM : ∀ b, M b → N ≤ b) (hN : N ≤ w.heap.size) : ∀ b, M' b → N ≤ b := fun b hb => by
 rcases h.2 b hb with h | h
 ·exact hM b h
 ·omega
end
end
end Go.Proofs.YtcombcoilpmnkaaGreat
