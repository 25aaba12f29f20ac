/-
  Texts of this claim, joined (by a program of the claim's author): GMovB, GRound, GItm, GGet, GOps, GOpsB.
-/
import Derived.Test.YtmkgajdgnmolkaaGreatR1
import Derived.Test.YtmkgajdgnmolkaaGreatR5
import Derived.Test.YtmkgajdgnmolkaaGreatR7
import Derived.Test.YtmkgajdgnmolkaaGreatR3
import Derived.Deep.RegionHeld
import Derived.Test.YtmkgajdgnmolkaaGreatR4
import Derived.Deep.Onto
import Derived.Test.YtmkgajdgnmolkaaGreatR6
namespace Go.Proofs.YtmkgajdgnmolkaaGreat
set_option maxRecDepth 100000
set_option maxHeartbeats 16000000
section
open Go.RowKit Go.Shelf
attribute [local go_sem] Oper.semAt_some
def BoxI (W : World) (q : Nat) (ty : TypeId) (r : Int) : Prop := W.heap[q]? = some (.cells #[.int .i64 r] ty (0, 0))
def MovI (D N : Nat) (parent : Int) (xs : List (Int × Int)) (i : Nat) (Fq : Nat → Prop) (W' : World) : Prop :=
 (parent ∉ (xs.take i).map (·.1)) ∧ W'.heap[D]? = some (.cells #[.int .i64 (maxLv (xs.take i))] 3 (0, 0)) ∧ W'.heap[N + 1]? = some (.cells #[.int .i64 0] 37 (0, 0)) ∧ W'.heap[N]? = some (.cells #[.int .i64 parent] 3 (0, 0)) ∧ Fq D ∧ Fq (N + 1)
def MovX (N : Nat) (parent : Int) (xs : List (Int × Int)) (c : Code) (Fq : Nat → Prop) (W' : World) : Prop :=
 c = .ret ∧ (parent ∈ xs.map (·.1)) ∧ W'.heap[N + 1]? = some (.cells #[.int .i64 61] 37 (0, 0)) ∧ Fq (N + 1)
section
variable {w : World} {t mb : Nat} {y : Lay} {g : Int → Option Ent} {root next : Int} {n : Nat}
theorem Move_some (h : TreeAt w t mb y g root next n) {id parent : Int} (at' : Int) (hw : wfI id) (hwp : wfI parent) {e p : Ent} (he : g id = some e) (hp : g parent = some p) (R : Ending → World → Prop)
  (hroot : id = root → ∀ w', Below w.heap.size w w' → R (.returned (.int .i64 62)) w') (hkind : id ≠ root → p.d.kind ≠ 1 → ∀ w', Below w.heap.size w w' → R (.returned (.int .i64 68)) w')
  (xs : List (Int × Int)) (hloop : id ≠ root → p.d.kind = 1 → parent ∈ xs.map (·.1) → ∀ w', Below w.heap.size w w' → R (.returned (.int .i64 61)) w') (_hxs : xs.length ≤ 1000000) (hlv : ∀ x ∈ xs, 0 ≤ x.2 ∧ x.2 ≤ 1000000) (hit : IterB t mb y g root next n id 0 xs)
  (hwf : ∀ id e, g id = some e → wfI id) (L : Nat) (hL : L ≤ 1000000) (hLev : Lev g L parent) (hkl : p.kids.length ≤ 1000000) (many : Int) (hmany : Hid ((p.kids.length : Int) - (if e.par = parent then 1 else 0) = many))
  (hplace : id ≠ root → p.d.kind = 1 → parent ∉ xs.map (·.1) → (at' < 0 ∨ many < at') → ∀ w', Below w.heap.size w w' → R (.returned (.int .i64 69)) w')
  (hdeep : id ≠ root → p.d.kind = 1 → parent ∉ xs.map (·.1) → 0 ≤ at' → at' ≤ many → 40 ≤ (L : Int) + 1 + maxLv xs → ∀ w', Below w.heap.size w w' → R (.returned (.int .i64 65)) w')
  (hyes : id ≠ root → p.d.kind = 1 → parent ∉ xs.map (·.1) → 0 ≤ at' → at' ≤ many → (L : Int) + 1 + maxLv xs < 40 → ∃ (pe : Ent) (k : Nat) (g1 : Int → Option Ent) (p1 e2 : Ent) (g2 : Int → Option Ent), g e.par = some pe ∧ pe.kids[k]? = some id ∧ (∀ j, j < k → pe.kids[j]? ≠ some id) ∧ pe.kids.length ≤ 1000000 ∧
   fset g e.par (some { pe with kids := pe.kids.eraseIdx k }) = g1 ∧ g1 parent = some p1 ∧ at'.toNat ≤ p1.kids.length ∧ p1.kids.length ≤ 1000000 ∧ fset g1 parent (some { p1 with kids := p1.kids.take at'.toNat ++ id :: p1.kids.drop at'.toNat }) = g2 ∧ g2 id = some e2 ∧
   ∀ w', TP t mb y g w (fset g2 id (some { e2 with par := parent })) root next n w' → R (.returned (.int .i64 0)) w') :
  Calls Tryz.prog 31 #[.pointer (some ⟨t, 0, none⟩), .int .i64 id, .int .i64 parent, .int .i64 at'] w R := by
 obtain ⟨W1, hW1⟩ : ∃ W1, Hid (W1 = (w.alloc (.cells #[.int .i64 parent] 3)).alloc (.cells #[.int .i64 0] 37)) := ⟨_, rfl⟩
 have hb1 : Below w.heap.size w W1 := by rw [hW1.out]; exact ((Below.refl _ w).alloc (Nat.le_refl _) _).alloc (by simp) _
 have hq1 : W1.heap[w.heap.size + 1]? = some (.cells #[.int .i64 0] 37 (0, 0)) := by
  rw [hW1.out]
  have := heap_alloc_new (w.alloc (.cells #[.int .i64 parent] 3)) (.cells #[.int .i64 0] 37)
  simpa using this
 have hr1 : W1.heap[w.heap.size]? = some (.cells #[.int .i64 parent] 3 (0, 0)) := by
  rw [hW1.out]
  exact (Below.heap_alloc _ _ _ (by simp)).trans (heap_alloc_new w _)
 have hz1 : W1.heap.size = w.heap.size + 2 := by rw [hW1.out]; simp
 have h1 := h.below hb1
 have c0 := h1.c0
 have hl := (h1.look_yes he hw).1
 have hl2 := fun (j : Nat) => ((h1.keep (w' := W1.drewN j) (fun _ _ => rfl)).look_yes hp hwp).1
 rw [hW1.out] at c0 hl hl2
 have HH := Lib.hid h
 have HE := Lib.hid he
 have HP := Lib.hid hp
 have HIT := Lib.hid hit
 have HLV := Lib.hid hlv
 have HROOT := Lib.hid hroot
 have HKIND := Lib.hid hkind
 have HLOOP := Lib.hid hloop
 have HZ1 := Lib.hid hz1
 have HPLACE := Lib.hid hplace
 have HDEEP := Lib.hid hdeep
 have HYES := Lib.hid hyes
 have HLEV := Lib.hid hLev
 have HWF := Lib.hid hwf
 clear h h1 he hp hit hlv hroot hkind hloop hz1 hplace hdeep hyes hLev hwf
 refine callsIn_wide.1 (callsIn_of_wp_marks (n := 0) Tryz.func31 rfl trivial ?_ rfl)
 simp only [Tryz.ntmps31, List.size_toArray, List.length_cons, List.length_nil, Nat.reduceAdd, Nat.reduceSub, Array.replicate_succ, Array.replicate_zero, List.push_toArray, List.append_toArray, List.nil_append, List.cons_append]
 gi_wp2
 refine wpIn_wide.2 ?_
 go_quiet (fail)
 rw [← hW1.out]
 obtain ⟨W2, hW2⟩ : ∃ W2, Hid (W1.drewN nq = W2) := ⟨_, rfl⟩
 rw [hW2.out]
 have hb2 : Below w.heap.size w W2 := by rw [← hW2.out]; exact ⟨hb1.os, hb1.tape, hb1.output, hb1.size, hb1.block⟩
 have hz2 : W2.heap.size = w.heap.size + 2 := by rw [← hW2.out]; exact HZ1.out
 have hq2 : W2.heap[w.heap.size + 1]? = some (.cells #[.int .i64 0] 37 (0, 0)) := by rw [← hW2.out]; exact hq1
 have hr2 : W2.heap[w.heap.size]? = some (.cells #[.int .i64 parent] 3 (0, 0)) := by rw [← hW2.out]; exact hr1
 obtain ⟨N, hN⟩ : ∃ N, Hid (w.heap.size = N) := ⟨_, rfl⟩
 have h2 := HH.out.below hb2
 have H2 := Lib.hid h2
 have HB2 := Lib.hid hb2
 have HQ2 := Lib.hid hq2
 have HR2 := Lib.hid hr2
 have HZ2 := Lib.hid hz2
 have fq := cell_row hq2 0 _ rfl
 have ff := free_row hq2 0
 have c1 := h2.c1
 have c2 := h2.n2 HP.out
 clear c0 hl hl2 hb1 hq1 hr1 hb2 hz2 hq2 hr2 h2
 have fin : Hid (∀ (bs : List Nat) (V w' : World) (r : Int), Below w.heap.size w V → w.heap.size + 1 < V.heap.size → (∀ b ∈ bs, w.heap.size ≤ b) → Turn (fun b => b ∈ bs) (V.setCell ⟨w.heap.size + 1, 0, none⟩ (.int .i64 r)) w' → Below w.heap.size w w') := by
  intro bs V w' r hb hv hbs hw'
  refine ⟨hw'.os.trans hb.os, hw'.tape.trans hb.tape, hw'.output.trans hb.output, ?_, fun b hb' => ?_⟩
  ·have h2 := hw'.size
   have h3 := hb.size
   simp at h2
   omega
  ·exact (hw'.block b (by simp; have := hb.size; omega) (fun hm => by have := hbs b hm; omega)).trans ((Below.heap_setCell _ _ _ _ (by show b ≠ w.heap.size + 1; omega)).trans (hb.block b hb'))
 by_cases hir : id = root
 ·have hir' : (id == root) = true := by simpa using hir
  gi_wp2
  refine move_leave (bs := []) (V := W2) HQ2.out (by simp) (by simp) rfl (fun w' hw' => HROOT.out hir _ (fin.out [] W2 w' _ HB2.out (by have := HZ2.out; omega) (by simp) hw'))
 ·have hir' : (id == root) = false := by simpa using hir
  by_cases hk : p.d.kind = 1
  ·rw [hk] at c2
   obtain ⟨W3, hW3⟩ : ∃ W3, Hid (W3 = W2.alloc (.cells #[.int .i64 0] 3)) := ⟨_, rfl⟩
   have hb3 : Below W2.heap.size W2 W3 := by rw [hW3.out]; exact (Below.refl _ W2).alloc (Nat.le_refl _) _
   have hd3 : W3.heap[W2.heap.size]? = some (.cells #[.int .i64 0] 3 (0, 0)) := by rw [hW3.out]; exact heap_alloc_new W2 _
   have HB3 := Lib.hid hb3
   have HD3 := Lib.hid hd3
   have HZ3 : Hid (W3.heap.size = W2.heap.size + 1) := by show _ = _; rw [hW3.out]; simp
   clear hb3 hd3
   gi_wp2
   rw [← hW3.out]
   refine ⟨trivial, rfl, ?_⟩
   refine (callsIn_wide.2 (below_boxes W3 t id 0)).mono ?_
   rintro e5 w4 ⟨rfl, hb4, hz4, k1, k2, k3⟩
   have h3 := H2.out.below HB3.out
   have hi4 := HIT.out w4 _ _ _ (h3.below hb4) k1 k2 k3
   have hd4 : w4.heap[W2.heap.size]? = some (.cells #[.int .i64 0] 3 (0, 0)) := (hb4.block _ (by have := HZ3.out; omega)).trans HD3.out
   have hq4 : w4.heap[w.heap.size + 1]? = some (.cells #[.int .i64 0] 37 (0, 0)) := (hb4.block _ (by have := HZ3.out; have := HZ2.out; omega)).trans ((HB3.out.block _ (by have := HZ2.out; omega)).trans HQ2.out)
   have hr4 : w4.heap[w.heap.size]? = some (.cells #[.int .i64 parent] 3 (0, 0)) := (hb4.block _ (by have := HZ3.out; have := HZ2.out; omega)).trans ((HB3.out.block _ (by have := HZ2.out; omega)).trans HR2.out)
   have hb24 : Below W2.heap.size W2 w4 := HB3.out.trans (hb4.mono (by have := HZ3.out; omega))
   have hb04 : Below w.heap.size w w4 := HB2.out.trans (hb24.mono (by have := HZ2.out; omega))
   have HI := Lib.hid hi4
   have HT4 := Lib.hid (h3.below hb4)
   have HD4 := Lib.hid hd4
   have HQ4 := Lib.hid hq4
   have HR4 := Lib.hid hr4
   have HB4 := Lib.hid hb04
   have HZ4 := Lib.hid hz4
   clear hi4 hd4 hq4 hr4 hb04 hb24 hb4 k1 k2 k3 h3 hz4
   obtain ⟨D, hD⟩ : ∃ D, Hid (W2.heap.size = D) := ⟨_, rfl⟩
   obtain ⟨Z, hZ⟩ : ∃ Z, Hid (W3.heap.size = Z) := ⟨_, rfl⟩
   rw [hD.out] at HD4
   rw [hN.out] at HQ4 HR4
   rw [hD.out, hZ.out, hN.out]
   rw [hZ.out] at HI
   have hnum : Hid (D = N + 2 ∧ Z = N + 3 ∧ w4.heap.size = N + 6) := by
    have a1 := HZ2.out; have a2 := HZ3.out; have a3 := HZ4.out
    have b1 := hD.out; have b2 := hZ.out; have b3 := hN.out
    exact ⟨by omega, by omega, by omega⟩
   clear fq ff c1 c2
   gi_wp2
   refine range_law (gf := 78) (lb := #[.pointer (some ⟨Z, 0, none⟩), .pointer (some ⟨Z + 1, 0, none⟩), .pointer (some ⟨Z + 2, 0, none⟩)]) rfl (enters_of Tryz.func78 (by kernel_rfl) rfl)
    HI.out (fun b hb => ⟨?dlt, rfl⟩) (Nat.le_refl _) (fun _ => rfl) (fun b => b = N + 1 ∨ b = D) (fun b hb => ⟨?clt, ?cnd⟩)
    (fun i Fq W' => MovI D N parent xs i Fq W')
    (fun c Fq W' => MovX N parent xs c Fq W')
    ?sI ?sX ⟨by simp, HD4.out, HQ4.out, HR4.out, .inr rfl, .inl rfl⟩ ?a1 ?assign ?body ?done ?stop
   case assign =>
    intro l' x W' K hK
    have HK := Lib.hid hK
    clear hK
    dsimp only [encV]
    gi_wp2
    exact HK.out
   case dlt =>
    obtain ⟨q1, q2, q3⟩ := hnum.out
    rcases hb with hb | rfl | rfl | rfl
    ·exact HT4.out.lt hb
    ·omega
    ·omega
    ·omega
   case clt => obtain ⟨q1, q2, q3⟩ := hnum.out; omega
   case cnd =>
    obtain ⟨q1, q2, q3⟩ := hnum.out
    rintro (hm | hm | hm | hm)
    ·have := HH.out.lt hm; have := hN.out; omega
    ·omega
    ·omega
    ·omega
   case sI =>
    obtain ⟨q1, q2, q3⟩ := hnum.out
    rintro i Fq A B ⟨a1, a2, a3, a4, a5, a6⟩ hk'
    exact ⟨a1, (hk'.block (Array.getElem?_eq_some_iff.1 a2).1 (.inr a5)).trans a2, (hk'.block (Array.getElem?_eq_some_iff.1 a3).1 (.inr a6)).trans a3, (hk'.block (Array.getElem?_eq_some_iff.1 a4).1 (.inl (by omega))).trans a4, a5, a6⟩
   case sX =>
    rintro c Fq A B ⟨a1, a2, a3, a6⟩ hk'
    exact ⟨a1, a2, (hk'.block (Array.getElem?_eq_some_iff.1 a3).1 (.inr a6)).trans a3, a6⟩
   case body =>
    rintro l' i ⟨xi, xl⟩ Fq W' hx ⟨a1, a2, a3, a4, a5, a6⟩ hW' hF
    obtain ⟨hl0, hl1⟩ := HLV.out _ (List.mem_of_getElem? hx)
    have fd := cell_row a2 0 _ rfl
    have ffd := free_row a2 0
    have fq := cell_row a3 0 _ rfl
    have ffq := free_row a3 0
    have fr := cell_row a4 0 _ rfl
    dsimp only
    by_cases hxp : xi = parent
    ·have hxp' : (xi == parent) = true := by simpa using hxp
     have hmem : parent ∈ xs.map (·.1) := List.mem_map.2 ⟨_, List.mem_of_getElem? hx, hxp⟩
     have h61 : (W'.setCell ⟨N + 1, 0, none⟩ (.int .i64 61)).heap[N + 1]? = some (.cells #[.int .i64 61] 37 (0, 0)) := Lib.heap_setCell_same (i := 0) a3 _
     have HFIN : Hid (Left Fq W' (fun Fp V => MovX N parent xs .ret Fp V) (W'.setCell ⟨N + 1, 0, none⟩ (.int .i64 61))) :=
      ⟨Fq, ⟨⟨rfl, rfl, rfl, by simp, fun b _ hb => Below.heap_setCell _ _ _ _ (fun e' => hb (by rw [e']; exact a6))⟩, fun b hb => .inl hb⟩, fun b hb => by simp; exact hF b hb, rfl, hmem, h61, a6⟩
     clear hx a1 a2 a3 a4 a5 a6 hW' hF h61 hmem
     gi_wp2
     exact HFIN.out
    ·have hxp' : (xi == parent) = false := by simpa using hxp
     obtain ⟨M, hM⟩ : ∃ M, Hid (maxLv (xs.take i) = M) := ⟨_, rfl⟩
     have hmx : maxLv (xs.take (i + 1)) = max M xl := by rw [List.take_add_one, hx]; simp only [Option.toList_some]; rw [maxLv_snoc, hM.out]
     rw [hM.out] at fd
     have hdn : (W'.setCell ⟨D, 0, none⟩ (.int .i64 (max M xl))).heap[D]? = some (.cells #[.int .i64 (max M xl)] 3 (0, 0)) := Lib.heap_setCell_same (i := 0) a2 _
     obtain ⟨n1, n2, n3⟩ := hnum.out
     have HFIN : Hid (Left Fq W' (fun Fp V => MovI D N parent xs (i + 1) Fp V) (W'.setCell ⟨D, 0, none⟩ (.int .i64 (max M xl)))) := by
      refine ⟨Fq, ⟨⟨rfl, rfl, rfl, by simp, fun b _ hb => Below.heap_setCell _ _ _ _ (fun e' => hb (by rw [e']; exact a5))⟩, fun b hb => .inl hb⟩, fun b hb => by simp; exact hF b hb, ?_, by rw [hmx]; exact hdn, (Below.heap_setCell _ _ _ _ (by show N + 1 ≠ D; omega)).trans a3, (Below.heap_setCell _ _ _ _ (by show N ≠ D; omega)).trans a4, a5, a6⟩
      rw [List.take_add_one, hx]
      simp only [Option.toList_some, List.map_append, List.mem_append, not_or]
      exact ⟨a1, by simp; exact fun h => hxp h.symm⟩
     clear hx a1 a2 a3 a4 a5 a6 hW' hF hmx hdn n1 n2 n3
     gi_wp2
     exact HFIN.out
   case stop =>
    rintro c W5 ⟨Fq, r1, r2, ⟨rfl, hmem, h61, hf6⟩, qn⟩ hK5
    have HR1 := Lib.hid r1
    have H61 := Lib.hid h61
    have HK5 := Lib.hid hK5
    clear r1 r2 h61 hf6 qn hK5
    gi_wp2
    refine marks_leave [w4.heap.size] W5 (by simp) (fun b hb => by simp at hb; subst hb; exact HK5.out) (fun w' hw' => ⟨_, results_cell1 Tryz.results31 _ _ (N + 1) (.int .i64 61) _ rfl ?_ Tryz.underlying37 rfl, HLOOP.out hir hk hmem _ ?_⟩)
    ·obtain ⟨q1, q2, q3⟩ := hnum.out
     have h2 := (hw'.block (N + 1) (Array.getElem?_eq_some_iff.1 H61.out).1 (fun hm => by simp at hm; omega)).trans H61.out
     exact cell_row h2 0 _ rfl
    ·obtain ⟨q1, q2, q3⟩ := hnum.out
     have hn := hN.out
     have h4 := HB4.out
     have h1 := HR1.out.1
     refine ⟨hw'.os.trans (h1.os.trans h4.os), hw'.tape.trans (h1.tape.trans h4.tape), hw'.output.trans (h1.output.trans h4.output), ?_, fun b hb => ?_⟩
     ·have := hw'.size; have := h1.size; omega
     ·exact (hw'.block b (Nat.lt_of_lt_of_le (show b < w4.heap.size by omega) h1.size) (fun hm => by simp at hm; omega)).trans ((h1.block b (by omega) (fun h => by omega)).trans (h4.block b hb))
   case done =>
    rintro W5 ⟨Fq, r1, r2, ⟨hmem, hdp, hq5, hr5, hf5, hf6⟩, qn⟩ hK5
    rw [List.take_length] at hmem hdp
    obtain ⟨q1, q2, q3⟩ := hnum.out
    have hn := hN.out
    have T5 : TreeAt W5 t mb y g root next n := HT4.out.keep fun b hb => r1.1.block b (HT4.out.lt hb) (fun h => by have := HH.out.lt hb; omega)
    have hb5 : Below w.heap.size w W5 := by
     have h4 := HB4.out
     have h1 := r1.1
     refine ⟨h1.os.trans h4.os, h1.tape.trans h4.tape, h1.output.trans h4.output, ?_, fun b hb => (h1.block b (by omega) (fun h => by omega)).trans (h4.block b hb)⟩
     have := h1.size; omega
    have hz5 : N + 7 ≤ W5.heap.size := by
     have := (Array.getElem?_eq_some_iff.1 hK5).1; omega
    obtain ⟨M, hM⟩ : ∃ M, Hid (maxLv xs = M) := ⟨_, rfl⟩
    have hM0 : 0 ≤ M := by rw [← hM.out]; exact maxLv_nonneg xs
    have hM1 : M ≤ 1000000 := by
     rw [← hM.out]
     have : ∀ l : List (Int × Int), (∀ x ∈ l, 0 ≤ x.2 ∧ x.2 ≤ 1000000) → maxLv l ≤ 1000000 := by
      intro l
      induction l with
      | nil => intro _; simp [maxLv]
      | cons x l ih => intro h; have h1 := ih (fun z hz => h z (List.mem_cons_of_mem _ hz)); have h2 := h x List.mem_cons_self; simp only [maxLv]; omega
     exact this xs HLV.out
    rw [hM.out] at hdp
    have HT5 := Lib.hid T5
    have HB5 := Lib.hid hb5
    have HMEM := Lib.hid hmem
    have HDP := Lib.hid hdp
    have HQ5 := Lib.hid hq5
    have HR5 := Lib.hid hr5
    have HK5 := Lib.hid hK5
    have HZ5 := Lib.hid hz5
    have c7 := T5.n7 HP.out
    obtain ⟨A, c, hv, _⟩ := row_shape (T5.kid _ _ HP.out)
    rw [hv] at c7
    obtain ⟨m, hm⟩ : ∃ m, Hid (p.kids.length = m) := ⟨_, rfl⟩
    rw [hm.out] at c7 hkl
    have c1 := T5.n1 HE.out
    have fr := cell_row hr5 0 _ rfl
    have c1d : ∀ j, (W5.drewN j).cell? ⟨y.nb id, 1, none⟩ = some (.int .i64 e.par) := fun j => c1
    have frd : ∀ j, (W5.drewN j).cell? ⟨N, 0, none⟩ = some (.int .i64 parent) := fun j => fr
    clear r1 r2 hmem hdp hq5 hr5 hf5 hf6 qn hK5 T5 hb5 hz5 q1 q2 q3 hv c1 hn
    dsimp only
    gi_wp2
    refine wpIn_wide.2 ?_
    go_quiet (fail)
    obtain ⟨W6, hW6⟩ : ∃ W6, Hid (W5.drewN nq = W6) := ⟨_, rfl⟩
    rw [hW6.out]
    have HT6 : Hid (TreeAt W6 t mb y g root next n) := by rw [← hW6.out]; exact HT5.out.keep fun _ _ => rfl
    have HB6 : Hid (Below w.heap.size w W6) := by
     have := HB5.out
     rw [← hW6.out]; exact ⟨this.os, this.tape, this.output, this.size, this.block⟩
    have HQ6 : Hid (W6.heap[N + 1]? = some (.cells #[.int .i64 0] 37 (0, 0))) := by rw [← hW6.out]; exact HQ5.out
    have HR6 : Hid (W6.heap[N]? = some (.cells #[.int .i64 parent] 3 (0, 0))) := by rw [← hW6.out]; exact HR5.out
    have HD6 : Hid (W6.heap[D]? = some (.cells #[.int .i64 M] 3 (0, 0))) := by rw [← hW6.out]; exact HDP.out
    have HK6 : Hid (W6.heap[w4.heap.size]? = some (.deferred (some []))) := by rw [← hW6.out]; exact HK5.out
    have HZ6 : Hid (N + 7 ≤ W6.heap.size) := by rw [← hW6.out]; exact HZ5.out
    have FINN : Hid (∀ (V w' : World) (r : Int), Below w.heap.size w V → N + 1 < V.heap.size → Turn (fun b => b ∈ [w4.heap.size]) (V.setCell ⟨N + 1, 0, none⟩ (.int .i64 r)) w' → Below w.heap.size w w') := by
     have e' := hN.out
     have e2 := hnum.out.2.2
     subst e'
     exact fun V w' r h1 h2 h3 => fin.out [w4.heap.size] V w' r h1 h2 (fun b hb => by simp at hb; omega) h3
    have MKS : Hid (∀ b ∈ [w4.heap.size], W6.heap[b]? = some (.deferred (some []))) := fun b hb => by simp at hb; subst hb; exact HK6.out
    have fq6 := cell_row HQ6.out 0 _ rfl
    have ff6 := free_row HQ6.out 0
    have fr6 := cell_row HR6.out 0 _ rfl
    have fd6 := cell_row HD6.out 0 _ rfl
    have fr6d : ∀ j, (W6.drewN j).cell? ⟨N, 0, none⟩ = some (.int .i64 parent) := fun j => fr6
    have fd6d : ∀ j, (W6.drewN j).cell? ⟨D, 0, none⟩ = some (.int .i64 M) := fun j => fd6
    have hm0 : (m : Int) ≤ 1000000 := by omega
    clear c7 fr c1d frd hW6
    by_cases hep : e.par = parent
    ·have hep' : (e.par == parent) = true := by simpa using hep
     have hmy : (m : Int) - 1 = many := by have := hmany.out; rw [hm.out, if_pos hep] at this; exact this
     by_cases ha0 : at' < 0
     ·gi_wp2
      refine move_leave (bs := [w4.heap.size]) (V := W6) HQ6.out (by simp) MKS.out rfl (fun w' hw' => HPLACE.out hir hk HMEM.out (.inl ha0) _ (FINN.out W6 w' _ HB6.out (by have := HZ6.out; omega) hw'))
     ·have ha0' : 0 ≤ at' := by omega
      by_cases ha1 : (m : Int) - 1 < at'
      ·gi_wp2
       refine move_leave (bs := [w4.heap.size]) (V := W6) HQ6.out (by simp) MKS.out rfl (fun w' hw' => HPLACE.out hir hk HMEM.out (.inr (by omega)) _ (FINN.out W6 w' _ HB6.out (by have := HZ6.out; omega) hw'))
      ·have ha1' : at' ≤ (m : Int) - 1 := by omega
       gi_wp2
       refine wpIn_wide.2 ?_
       have lev : ∀ j, Calls Tryz.prog 59 #[.pointer (some ⟨t, 0, none⟩), .int .i64 parent] (W6.drewN j) fun e w' => e = .returned (.int .i64 (L : Int)) ∧ w' = W6.drewN j := fun j =>
        (level_any (HT6.out.keep (w' := W6.drewN j) fun _ _ => rfl) HWF.out L hL parent HLEV.out).mono fun _ _ h => ⟨h.1, h.2.symm⟩
       go_quiet (exact Calls.quiet_of_same (lev _))
       clear lev
       obtain ⟨W7, hW7⟩ : ∃ W7, Hid (W6.drewN nq = W7) := ⟨_, rfl⟩
       rw [hW7.out]
       have HT7 : Hid (TreeAt W7 t mb y g root next n) := by rw [← hW7.out]; exact HT6.out.keep fun _ _ => rfl
       have HB7 : Hid (Below w.heap.size w W7) := by
        have := HB6.out
        rw [← hW7.out]; exact ⟨this.os, this.tape, this.output, this.size, this.block⟩
       have HQ7 : Hid (W7.heap[N + 1]? = some (.cells #[.int .i64 0] 37 (0, 0))) := by rw [← hW7.out]; exact HQ6.out
       have HR7 : Hid (W7.heap[N]? = some (.cells #[.int .i64 parent] 3 (0, 0))) := by rw [← hW7.out]; exact HR6.out
       have HK7 : Hid (W7.heap[w4.heap.size]? = some (.deferred (some []))) := by rw [← hW7.out]; exact HK6.out
       have HZ7 : Hid (N + 7 ≤ W7.heap.size) := by rw [← hW7.out]; exact HZ6.out
       have MKS7 : Hid (∀ b ∈ [w4.heap.size], W7.heap[b]? = some (.deferred (some []))) := fun b hb => by simp at hb; subst hb; exact HK7.out
       have fq7 := cell_row HQ7.out 0 _ rfl
       have ff7 := free_row HQ7.out 0
       clear fq6 ff6 fr6 fd6 fr6d fd6d hW7
       by_cases hdeep : 40 ≤ (L : Int) + 1 + M
       ·gi_wp2
        refine move_leave (bs := [w4.heap.size]) (V := W7) HQ7.out (by simp) MKS7.out rfl (fun w' hw' => HDEEP.out hir hk HMEM.out ha0' (by omega) (by rw [hM.out]; exact hdeep) _ (FINN.out W7 w' _ HB7.out (by have := HZ7.out; omega) hw'))
       ·have hdeep' : (L : Int) + 1 + M < 40 := by omega
        have hY := HYES.out hir hk HMEM.out ha0' (by omega) (by rw [hM.out]; exact hdeep')
        obtain ⟨pe, k, g1, p1, e2, g2, y1, y2, y3, y4, y5, y6, y7, y8, y9, y10, y11⟩ := hY
        have hcut := cut_any HT7.out HWF.out HE.out y1 k y2 y3 y4
        rw [y5] at hcut
        have HCUT := Lib.hid hcut
        have HY6 := Lib.hid y6
        have HY7 := Lib.hid y7
        have HY8 := Lib.hid y8
        have HY9 := Lib.hid y9
        have HY10 := Lib.hid y10
        have HY11 := Lib.hid y11
        clear hcut y1 y2 y3 y4 y5 y6 y7 y8 y9 y10 y11
        gi_wp2
        refine ⟨trivial, rfl, ?_⟩
        refine (callsIn_wide.2 HCUT.out).mono ?_
        rintro e8 w8 ⟨rfl, yl, hnb, ht8, hg8⟩
        have hnm7 : ∀ b, w.heap.size ≤ b → ¬ Mine t mb y g b := fun b hb hm => by have := HH.out.lt hm; omega
        have hkeep8 : ∀ b, w.heap.size ≤ b → b < W7.heap.size → w8.heap[b]? = W7.heap[b]? := fun b h1 h2 => hg8.1.block b h2 (hnm7 b h1)
        have hn := hN.out
        have hz7 := HZ7.out
        obtain ⟨q1, q2, q3⟩ := hnum.out
        have hR8 : w8.heap[N]? = some (.cells #[.int .i64 parent] 3 (0, 0)) := (hkeep8 N (by omega) (by omega)).trans HR7.out
        have hQ8 : w8.heap[N + 1]? = some (.cells #[.int .i64 0] 37 (0, 0)) := (hkeep8 _ (by omega) (by omega)).trans HQ7.out
        have hK8 : w8.heap[w4.heap.size]? = some (.deferred (some [])) := (hkeep8 _ (by omega) (by omega)).trans HK7.out
        have c7 := ht8.n7 HY6.out
        rw [hnb] at c7
        obtain ⟨A8, c8, hv8, _⟩ := row_shape (ht8.kid _ _ HY6.out)
        have hb9 : Below w8.heap.size w8 (w8.alloc (.cells #[.int .i64 id] 3)) := (Below.refl _ w8).alloc (Nat.le_refl _) _
        have hX9 : (w8.alloc (.cells #[.int .i64 id] 3)).heap[w8.heap.size]? = some (.cells #[.int .i64 id] 3 (0, 0)) := heap_alloc_new w8 _
        have HZ8 : Hid (W7.heap.size ≤ w8.heap.size) := hg8.1.size
        have HT8 := Lib.hid ht8
        have HG8 := Lib.hid hg8
        have HR8 := Lib.hid hR8
        have HQ8 := Lib.hid hQ8
        have HK8 := Lib.hid hK8
        have HB9 := Lib.hid hb9
        have HX9 := Lib.hid hX9
        have HNB := Lib.hid hnb
        have HV8 := Lib.hid hv8
        have HNM7 := Lib.hid hnm7
        have hins := Insert_int (yl.kid parent) p1.kids at'.toNat id w8.heap.size _ (((ht8.below hb9).kid _ _ HY6.out)) hX9 (fun h => by have := row_lt (ht8.kid _ _ HY6.out) h; omega) HY8.out HY7.out
        rw [Int.toNat_of_nonneg ha0'] at hins
        have HINS := Lib.hid hins
        clear hins hnm7 hkeep8 hR8 hQ8 hK8 hv8 hb9 hX9 ht8 hg8 hnb hn hz7 q1 q2 q3 fq7 ff7
        gi_wp2
        refine ⟨trivial, rfl, ?_⟩
        refine (callsIn_wide.2 HINS.out).mono ?_
        rintro e9 w10 ⟨v', rfl, hr10, hg10, hf10⟩
        have H9 := HT8.out.below HB9.out
        obtain ⟨u0, u1, u2⟩ := H9.set_kids HY6.out hr10 hg10 hf10
        rw [HY9.out] at u1 u2
        rw [HNB.out] at u0 u1 u2
        have f7 := cell_row u0 7 _ rfl
        have f8 := free_row u0 7
        obtain ⟨pa, pn, pc, hv'⟩ : ∃ pa pn pc, v' = .slice pa pn pc := by
         rcases hr10.2 with ⟨h, _⟩ | ⟨_, _, _, h, _⟩
         ·exact ⟨_, _, _, h⟩
         ·exact ⟨_, _, _, h⟩
        subst hv'
        obtain ⟨w11, hw11⟩ : ∃ w11, Hid (w10.setCell ⟨y.nb parent, 7, none⟩ (.slice pa pn pc) = w11) := ⟨_, rfl⟩
        rw [hw11.out] at u1 u2
        have hnd11 := u1.node id e2 HY10.out
        have hnb11 : (layK yl parent (.slice pa pn pc)).nb id = y.nb id := by show yl.nb id = y.nb id; rw [HNB.out]
        rw [hnb11] at hnd11
        have g1' := cell_row hnd11 1 _ rfl
        have g2' := free_row hnd11 1
        have hno := u1.nb_not HY10.out id e2 HY10.out
        rw [hnb11] at hno
        have hso : ∀ b, b ≠ y.nb id → (w11.setCell ⟨y.nb id, 1, none⟩ (.int .i64 parent)).heap[b]? = w11.heap[b]? := fun b hne => Below.heap_setCell _ _ _ _ hne
        obtain ⟨z1, z2⟩ := u1.turn_node HY10.out { e2 with par := parent } ((layK yl parent (.slice pa pn pc)).att id) ((layK yl parent (.slice pa pn pc)).kid id) (w' := w11.setCell ⟨y.nb id, 1, none⟩ (.int .i64 parent))
         (fun b _ hne _ _ => hso b (fun e' => hne (by rw [hnb11]; exact e'))) (by rw [hnb11, node_cells hnd11]; rfl)
         (row_block (u1.att id e2 HY10.out) fun b hb => hso b (fun e' => hno.1 (by rw [hb, e']))) (row_block (u1.kid id e2 HY10.out) fun b hb => hso b (fun e' => hno.2 (by rw [hb, e']))) (fun b hb => .inl hb) (fun b hb => .inl hb)
        obtain ⟨w12, hw12⟩ : ∃ w12, Hid (w11.setCell ⟨y.nb id, 1, none⟩ (.int .i64 parent) = w12) := ⟨_, rfl⟩
        rw [hw12.out] at z1
        have hG9 := (Grows.of_below HB9.out).trans u2
        have hG12 : Grows (Mine t mb y g) (Mine t mb { (layK yl parent (.slice pa pn pc)) with att := fset (layK yl parent (.slice pa pn pc)).att id ((layK yl parent (.slice pa pn pc)).att id), kid := fset (layK yl parent (.slice pa pn pc)).kid id ((layK yl parent (.slice pa pn pc)).kid id) } (fset g2 id (some { e2 with par := parent }))) W7 w12 := by
         refine (HG8.out.trans hG9).trans ⟨⟨?_, ?_, ?_, ?_, fun b hb hm => ?_⟩, z2⟩
         ·rw [← hw12.out]; rfl
         ·rw [← hw12.out]; rfl
         ·rw [← hw12.out]; rfl
         ·rw [← hw12.out]; simp
         ·rw [← hw12.out]; exact hso b (fun e' => hm (.inr (.inr ⟨id, e2, HY10.out, .inl (by rw [hnb11]; exact e')⟩)))
        have hk12 : ∀ b, w.heap.size ≤ b → b < W7.heap.size → w12.heap[b]? = W7.heap[b]? := fun b h1 h2 => hG12.1.block b h2 (HNM7.out b h1)
        have hk11 : ∀ b, w.heap.size ≤ b → b < W7.heap.size → w11.heap[b]? = W7.heap[b]? := fun b h1 h2 => (HG8.out.trans hG9).1.block b h2 (HNM7.out b h1)
        have hn := hN.out
        have hz7 := HZ7.out
        obtain ⟨q1, q2, q3⟩ := hnum.out
        have fr11 := cell_row ((hk11 N (by omega) (by omega)).trans HR7.out) 0 _ rfl
        have hQ12 := (hk12 (N + 1) (by omega) (by omega)).trans HQ7.out
        have hK12 := (hk12 w4.heap.size (by omega) (by omega)).trans HK7.out
        have fq12 := cell_row hQ12 0 _ rfl
        have ff12 := free_row hQ12 0
        have HQ12 := Lib.hid hQ12
        have HK12 := Lib.hid hK12
        have HG12 := Lib.hid hG12
        have HZ1' := Lib.hid z1
        have MKS12 : Hid (∀ b ∈ [w4.heap.size], w12.heap[b]? = some (.deferred (some []))) := fun b hb => by simp at hb; subst hb; exact HK12.out
        clear H9 hr10 hg10 hf10 u0 u1 u2 hnd11 hnb11 hno hso z1 z2 hG9 hG12 hk12 hk11 hQ12 hK12 hn hz7 q1 q2 q3
        rw [← hw12.out] at fq12 ff12
        rw [← hw11.out] at fr11 g1' g2' fq12 ff12
        gi_wp2
        rw [hw11.out, hw12.out]
        refine move_leave (bs := [w4.heap.size]) (V := w12) HQ12.out (by simp) MKS12.out rfl (fun w' hw' => HY11.out w' (move_tp HZ7.out hN.out (by have h1 := hN.out; have h2 := HZ7.out; have h3 := hnum.out.2.2; exact ⟨by omega, by omega⟩) HH.out HB7.out HG12.out HZ1'.out hw'))
    ·have hep' : (e.par == parent) = false := by simpa using hep
     have hmy : (m : Int) = many := by have := hmany.out; rw [hm.out, if_neg hep] at this; omega
     subst hmy
     by_cases ha0 : at' < 0
     ·gi_wp2
      refine move_leave (bs := [w4.heap.size]) (V := W6) HQ6.out (by simp) MKS.out rfl (fun w' hw' => HPLACE.out hir hk HMEM.out (.inl ha0) _ (FINN.out W6 w' _ HB6.out (by have := HZ6.out; omega) hw'))
     ·have ha0' : 0 ≤ at' := by omega
      by_cases ha1 : (m : Int) < at'
      ·gi_wp2
       refine move_leave (bs := [w4.heap.size]) (V := W6) HQ6.out (by simp) MKS.out rfl (fun w' hw' => HPLACE.out hir hk HMEM.out (.inr (by omega)) _ (FINN.out W6 w' _ HB6.out (by have := HZ6.out; omega) hw'))
      ·have ha1' : at' ≤ (m : Int) := by omega
       gi_wp2
       refine wpIn_wide.2 ?_
       have lev : ∀ j, Calls Tryz.prog 59 #[.pointer (some ⟨t, 0, none⟩), .int .i64 parent] (W6.drewN j) fun e w' => e = .returned (.int .i64 (L : Int)) ∧ w' = W6.drewN j := fun j =>
        (level_any (HT6.out.keep (w' := W6.drewN j) fun _ _ => rfl) HWF.out L hL parent HLEV.out).mono fun _ _ h => ⟨h.1, h.2.symm⟩
       go_quiet (exact Calls.quiet_of_same (lev _))
       clear lev
       obtain ⟨W7, hW7⟩ : ∃ W7, Hid (W6.drewN nq = W7) := ⟨_, rfl⟩
       rw [hW7.out]
       have HT7 : Hid (TreeAt W7 t mb y g root next n) := by rw [← hW7.out]; exact HT6.out.keep fun _ _ => rfl
       have HB7 : Hid (Below w.heap.size w W7) := by
        have := HB6.out
        rw [← hW7.out]; exact ⟨this.os, this.tape, this.output, this.size, this.block⟩
       have HQ7 : Hid (W7.heap[N + 1]? = some (.cells #[.int .i64 0] 37 (0, 0))) := by rw [← hW7.out]; exact HQ6.out
       have HR7 : Hid (W7.heap[N]? = some (.cells #[.int .i64 parent] 3 (0, 0))) := by rw [← hW7.out]; exact HR6.out
       have HK7 : Hid (W7.heap[w4.heap.size]? = some (.deferred (some []))) := by rw [← hW7.out]; exact HK6.out
       have HZ7 : Hid (N + 7 ≤ W7.heap.size) := by rw [← hW7.out]; exact HZ6.out
       have MKS7 : Hid (∀ b ∈ [w4.heap.size], W7.heap[b]? = some (.deferred (some []))) := fun b hb => by simp at hb; subst hb; exact HK7.out
       have fq7 := cell_row HQ7.out 0 _ rfl
       have ff7 := free_row HQ7.out 0
       clear fq6 ff6 fr6 fd6 fr6d fd6d hW7
       by_cases hdeep : 40 ≤ (L : Int) + 1 + M
       ·gi_wp2
        refine move_leave (bs := [w4.heap.size]) (V := W7) HQ7.out (by simp) MKS7.out rfl (fun w' hw' => HDEEP.out hir hk HMEM.out ha0' (by omega) (by rw [hM.out]; exact hdeep) _ (FINN.out W7 w' _ HB7.out (by have := HZ7.out; omega) hw'))
       ·have hdeep' : (L : Int) + 1 + M < 40 := by omega
        have hY := HYES.out hir hk HMEM.out ha0' (by omega) (by rw [hM.out]; exact hdeep')
        obtain ⟨pe, k, g1, p1, e2, g2, y1, y2, y3, y4, y5, y6, y7, y8, y9, y10, y11⟩ := hY
        have hcut := cut_any HT7.out HWF.out HE.out y1 k y2 y3 y4
        rw [y5] at hcut
        have HCUT := Lib.hid hcut
        have HY6 := Lib.hid y6
        have HY7 := Lib.hid y7
        have HY8 := Lib.hid y8
        have HY9 := Lib.hid y9
        have HY10 := Lib.hid y10
        have HY11 := Lib.hid y11
        clear hcut y1 y2 y3 y4 y5 y6 y7 y8 y9 y10 y11
        gi_wp2
        refine ⟨trivial, rfl, ?_⟩
        refine (callsIn_wide.2 HCUT.out).mono ?_
        rintro e8 w8 ⟨rfl, yl, hnb, ht8, hg8⟩
        have hnm7 : ∀ b, w.heap.size ≤ b → ¬ Mine t mb y g b := fun b hb hm => by have := HH.out.lt hm; omega
        have hkeep8 : ∀ b, w.heap.size ≤ b → b < W7.heap.size → w8.heap[b]? = W7.heap[b]? := fun b h1 h2 => hg8.1.block b h2 (hnm7 b h1)
        have hn := hN.out
        have hz7 := HZ7.out
        obtain ⟨q1, q2, q3⟩ := hnum.out
        have hR8 : w8.heap[N]? = some (.cells #[.int .i64 parent] 3 (0, 0)) := (hkeep8 N (by omega) (by omega)).trans HR7.out
        have hQ8 : w8.heap[N + 1]? = some (.cells #[.int .i64 0] 37 (0, 0)) := (hkeep8 _ (by omega) (by omega)).trans HQ7.out
        have hK8 : w8.heap[w4.heap.size]? = some (.deferred (some [])) := (hkeep8 _ (by omega) (by omega)).trans HK7.out
        have c7 := ht8.n7 HY6.out
        rw [hnb] at c7
        obtain ⟨A8, c8, hv8, _⟩ := row_shape (ht8.kid _ _ HY6.out)
        have hb9 : Below w8.heap.size w8 (w8.alloc (.cells #[.int .i64 id] 3)) := (Below.refl _ w8).alloc (Nat.le_refl _) _
        have hX9 : (w8.alloc (.cells #[.int .i64 id] 3)).heap[w8.heap.size]? = some (.cells #[.int .i64 id] 3 (0, 0)) := heap_alloc_new w8 _
        have HZ8 : Hid (W7.heap.size ≤ w8.heap.size) := hg8.1.size
        have HT8 := Lib.hid ht8
        have HG8 := Lib.hid hg8
        have HR8 := Lib.hid hR8
        have HQ8 := Lib.hid hQ8
        have HK8 := Lib.hid hK8
        have HB9 := Lib.hid hb9
        have HX9 := Lib.hid hX9
        have HNB := Lib.hid hnb
        have HV8 := Lib.hid hv8
        have HNM7 := Lib.hid hnm7
        have hins := Insert_int (yl.kid parent) p1.kids at'.toNat id w8.heap.size _ (((ht8.below hb9).kid _ _ HY6.out)) hX9 (fun h => by have := row_lt (ht8.kid _ _ HY6.out) h; omega) HY8.out HY7.out
        rw [Int.toNat_of_nonneg ha0'] at hins
        have HINS := Lib.hid hins
        clear hins hnm7 hkeep8 hR8 hQ8 hK8 hv8 hb9 hX9 ht8 hg8 hnb hn hz7 q1 q2 q3 fq7 ff7
        gi_wp2
        refine ⟨trivial, rfl, ?_⟩
        refine (callsIn_wide.2 HINS.out).mono ?_
        rintro e9 w10 ⟨v', rfl, hr10, hg10, hf10⟩
        have H9 := HT8.out.below HB9.out
        obtain ⟨u0, u1, u2⟩ := H9.set_kids HY6.out hr10 hg10 hf10
        rw [HY9.out] at u1 u2
        rw [HNB.out] at u0 u1 u2
        have f7 := cell_row u0 7 _ rfl
        have f8 := free_row u0 7
        obtain ⟨pa, pn, pc, hv'⟩ : ∃ pa pn pc, v' = .slice pa pn pc := by
         rcases hr10.2 with ⟨h, _⟩ | ⟨_, _, _, h, _⟩
         ·exact ⟨_, _, _, h⟩
         ·exact ⟨_, _, _, h⟩
        subst hv'
        obtain ⟨w11, hw11⟩ : ∃ w11, Hid (w10.setCell ⟨y.nb parent, 7, none⟩ (.slice pa pn pc) = w11) := ⟨_, rfl⟩
        rw [hw11.out] at u1 u2
        have hnd11 := u1.node id e2 HY10.out
        have hnb11 : (layK yl parent (.slice pa pn pc)).nb id = y.nb id := by show yl.nb id = y.nb id; rw [HNB.out]
        rw [hnb11] at hnd11
        have g1' := cell_row hnd11 1 _ rfl
        have g2' := free_row hnd11 1
        have hno := u1.nb_not HY10.out id e2 HY10.out
        rw [hnb11] at hno
        have hso : ∀ b, b ≠ y.nb id → (w11.setCell ⟨y.nb id, 1, none⟩ (.int .i64 parent)).heap[b]? = w11.heap[b]? := fun b hne => Below.heap_setCell _ _ _ _ hne
        obtain ⟨z1, z2⟩ := u1.turn_node HY10.out { e2 with par := parent } ((layK yl parent (.slice pa pn pc)).att id) ((layK yl parent (.slice pa pn pc)).kid id) (w' := w11.setCell ⟨y.nb id, 1, none⟩ (.int .i64 parent))
         (fun b _ hne _ _ => hso b (fun e' => hne (by rw [hnb11]; exact e'))) (by rw [hnb11, node_cells hnd11]; rfl)
         (row_block (u1.att id e2 HY10.out) fun b hb => hso b (fun e' => hno.1 (by rw [hb, e']))) (row_block (u1.kid id e2 HY10.out) fun b hb => hso b (fun e' => hno.2 (by rw [hb, e']))) (fun b hb => .inl hb) (fun b hb => .inl hb)
        obtain ⟨w12, hw12⟩ : ∃ w12, Hid (w11.setCell ⟨y.nb id, 1, none⟩ (.int .i64 parent) = w12) := ⟨_, rfl⟩
        rw [hw12.out] at z1
        have hG9 := (Grows.of_below HB9.out).trans u2
        have hG12 : Grows (Mine t mb y g) (Mine t mb { (layK yl parent (.slice pa pn pc)) with att := fset (layK yl parent (.slice pa pn pc)).att id ((layK yl parent (.slice pa pn pc)).att id), kid := fset (layK yl parent (.slice pa pn pc)).kid id ((layK yl parent (.slice pa pn pc)).kid id) } (fset g2 id (some { e2 with par := parent }))) W7 w12 := by
         refine (HG8.out.trans hG9).trans ⟨⟨?_, ?_, ?_, ?_, fun b hb hm => ?_⟩, z2⟩
         ·rw [← hw12.out]; rfl
         ·rw [← hw12.out]; rfl
         ·rw [← hw12.out]; rfl
         ·rw [← hw12.out]; simp
         ·rw [← hw12.out]; exact hso b (fun e' => hm (.inr (.inr ⟨id, e2, HY10.out, .inl (by rw [hnb11]; exact e')⟩)))
        have hk12 : ∀ b, w.heap.size ≤ b → b < W7.heap.size → w12.heap[b]? = W7.heap[b]? := fun b h1 h2 => hG12.1.block b h2 (HNM7.out b h1)
        have hk11 : ∀ b, w.heap.size ≤ b → b < W7.heap.size → w11.heap[b]? = W7.heap[b]? := fun b h1 h2 => (HG8.out.trans hG9).1.block b h2 (HNM7.out b h1)
        have hn := hN.out
        have hz7 := HZ7.out
        obtain ⟨q1, q2, q3⟩ := hnum.out
        have fr11 := cell_row ((hk11 N (by omega) (by omega)).trans HR7.out) 0 _ rfl
        have hQ12 := (hk12 (N + 1) (by omega) (by omega)).trans HQ7.out
        have hK12 := (hk12 w4.heap.size (by omega) (by omega)).trans HK7.out
        have fq12 := cell_row hQ12 0 _ rfl
        have ff12 := free_row hQ12 0
        have HQ12 := Lib.hid hQ12
        have HK12 := Lib.hid hK12
        have HG12 := Lib.hid hG12
        have HZ1' := Lib.hid z1
        have MKS12 : Hid (∀ b ∈ [w4.heap.size], w12.heap[b]? = some (.deferred (some []))) := fun b hb => by simp at hb; subst hb; exact HK12.out
        clear H9 hr10 hg10 hf10 u0 u1 u2 hnd11 hnb11 hno hso z1 z2 hG9 hG12 hk12 hk11 hQ12 hK12 hn hz7 q1 q2 q3
        rw [← hw12.out] at fq12 ff12
        rw [← hw11.out] at fr11 g1' g2' fq12 ff12
        gi_wp2
        rw [hw11.out, hw12.out]
        refine move_leave (bs := [w4.heap.size]) (V := w12) HQ12.out (by simp) MKS12.out rfl (fun w' hw' => HY11.out w' (move_tp HZ7.out hN.out (by have h1 := hN.out; have h2 := HZ7.out; have h3 := hnum.out.2.2; exact ⟨by omega, by omega⟩) HH.out HB7.out HG12.out HZ1'.out hw'))
  ·have hk' : (p.d.kind != 1) = true := by simpa using hk
   gi_wp2
   refine move_leave (bs := []) (V := W2) HQ2.out (by simp) (by simp) rfl (fun w' hw' => HKIND.out hir hk _ (fin.out [] W2 w' _ HB2.out (by have := HZ2.out; omega) (by simp) hw'))
end
end
section
open Go.RowKit
def noDefer (o : Oper) : Bool := match o.op with | .defer _ => false | _ => true
theorem rows_round {P : Program} {row : String} {args : Array Value} {w : World} {R : Value → World → Prop} {n l : Nat} (h : Rows P row args w R) : RowsIn (Fence.wide.inRound l) n P row args w R := fun c cs _ => by
 obtain ⟨v, w', r, s⟩ := h c cs
 exact ⟨v, w', r, (stepsIn_wide (m := _)).2 s⟩
theorem oper_round {P : Program} {o : Oper} {a : Act} {w : World} {K : Act → World → Prop} {Q : Exit → Act → World → Prop} {n l : Nat} (hd : noDefer o = true) (h : o.wp P a w K Q) : o.wpIn (Fence.wide.inRound l) n P a w K Q := by
 refine ⟨fun _ _ => trivial, ?_⟩
 rw [Oper.semAt_plain _ _ _ (fun c hc => by simp [noDefer, hc] at hd)]
 unfold Oper.wp at h
 generalize (execOp a.eval o).run P w = r at h ⊢
 rcases r with ⟨x, w'⟩ | ⟨x, w'⟩
 ·cases x
  case value v => exact h
  case skip => exact h
  case defer d => exact h
  case enter f args => exact ⟨fun h => (by cases h), CallsIn.inRound l (callsIn_wide.2 h)⟩
  case row r args => exact ⟨fun h => (by cases h), rows_round h⟩
  all_goals exact h.elim
 ·cases x <;> first | exact h | exact h.elim
theorem any_round {P : Program} {md : Region.Mode} {ops : Array Oper} {Q : Exit → Act → World → Prop} {n l : Nat} (hd : ops.all noDefer = true) (hQ : ¬ LetsOut Q) : ∀ (fuel : Nat) (listed : Array Bool) (a : Act) (w : World), wpAny P md ops Q fuel listed a w → wpAnyIn (Fence.wide.inRound l) n P md ops Q fuel listed a w
 | 0, _, _, _, h => h
 | fuel + 1, listed, a, w, h => by
  refine ⟨h.1, fun i hi => ?_⟩
  have h1 := h.2 i hi
  unfold wpOp at h1
  unfold wpOpIn
  cases ho : ops[i]? with
  | none => rw [ho] at h1; exact any_round hd hQ fuel _ _ _ h1
  | some o =>
   rw [ho] at h1
   simp only at h1 ⊢
   have hod : noDefer o = true := by
    obtain ⟨hlt, rfl⟩ := Array.getElem?_eq_some_iff.1 ho
    exact (Array.all_eq_true.1 hd) i hlt
   split at h1
   ·rcases h1 with h1 | ⟨_, h1⟩
    ·rw [if_pos (by assumption)]
     exact oper_round hod (Oper.wp_mono (fun a w h => any_round hd hQ fuel _ a w h) h1)
    ·exact (hQ h1).elim
   ·rw [if_neg (by assumption)]
    exact ⟨fun _ _ => trivial, any_round hd hQ fuel _ _ _ h1⟩
def onlyN (Q : Exit → Act → World → Prop) : Exit → Act → World → Prop
 | .normal, a, w => Q .normal a w
 | _, _, _ => False
theorem wpIn_region_held_round {P : Program} {ops : Array Oper} {Q : Exit → Act → World → Prop} {id n l : Nat} {a : Act} {w : World} (S : World → Prop) (hm : P.follows .mixedOrders = true) (hd : ops.all noDefer = true) (hS : S w.drew)
  (h : S w.drew → wpAnyH P .any ops (onlyN Q) S ops.size (Array.replicate ops.size false) a w.drew) : (Code.region id ops true).wpIn (Fence.wide.inRound l) n P Q a w := by
 have hl : ¬ LetsOut (onlyN Q) := fun ⟨_, _, h⟩ => h
 refine wpIn_mono (wpIn_region_any (Q := onlyN Q) hm (any_round hd hl _ _ _ _ (wpAny_of_held _ _ _ _ (h hS)))) ?_
 intro e a w h
 cases e <;> first | exact h | exact h.elim
end
section
open Go.RowKit Go.Shelf
attribute [local go_sem] Oper.semAt_some
def itemG (g : Int → Option Ent) (x : Int × Int) : ItemD := match g x.1 with
 | some e => e.d.at x.2
 | none => ⟨0, 0, [], [], []⟩
theorem own_up {w : World} {N : Nat} {e : TypeId} {size : Nat} {v : Value} {n : Nat} {xs : List Value} (h : w.ownsRow 0 e size v n xs) (hN : ∀ b, v.ownBlock = some b → N ≤ b) : w.ownsRow N e size v n xs := by
 refine ⟨h.1, ?_⟩
 rcases h.2 with h0 | ⟨g, cap, cur, rfl, _, rest⟩
 ·exact .inl h0
 ·exact .inr ⟨g, cap, cur, rfl, hN g rfl, rest⟩
def ItemsIn (N bx : Nat) (g : Int → Option Ent) (ys : List (Int × Int)) (Fp : Nat → Prop) (W : World) : Prop :=
 ∃ S : List Slot, S.map (·.1) = ys.map (itemG g) ∧ BoxRow N bx 34 62 5 ys.length (S.flatMap cellsI) Fp W ∧
  ∀ s ∈ S, AttrsOwn W N s.2.1 s.2.2 s.1.attrs ∧ ∀ b, (Value.slice s.2.1 s.1.attrs.length s.2.2).ownBlock = some b → Fp b
theorem ItemsIn.stab {N M bx : Nat} {g : Int → Option Ent} {ys : List (Int × Int)} (Fp : Nat → Prop) : StabF M Fp (ItemsIn N bx g ys Fp) := by
 rintro A B ⟨S, h1, h2, h3⟩ hk
 exact ⟨S, h1, BoxRow.stab Fp A B h2 hk, fun s hs => ⟨row_block (h3 s hs).1 fun b hb => hk.block (row_lt (h3 s hs).1 hb) (.inr ((h3 s hs).2 b hb)), (h3 s hs).2⟩⟩
theorem cellsI_one' (s : Slot) : ∀ u ∈ cellsI s, u.oneCell' = true := by
 intro u hu
 simp only [cellsI, List.mem_cons, List.not_mem_nil, or_false] at hu
 rcases hu with rfl | rfl | rfl | rfl | rfl <;> rfl
theorem box_left2 {N bx : Nat} {ty e : TypeId} {size n : Nat} {xs : List Value} {Fp E : Nat → Prop} {R : (Nat → Prop) → World → Prop} {W Wa w' : World} {v v' : Value} (hb : W.heap[bx]? = some (.cells #[v] ty (0, 0))) (hf : Fp bx) (hv : ∀ b, v.ownBlock = some b → Fp b ∧ N ≤ b)
  (hF : ∀ b, Fp b → b < W.heap.size) (hN : N ≤ W.heap.size) (hty : ty ≠ e) (ha : Below W.heap.size W Wa) (hg : Wa.grownBy w' v.ownBlock) (hnew : ∀ b, v'.ownBlock = some b → v.ownBlock = some b ∨ Wa.heap.size ≤ b) (hvb : v.ownBlock ≠ some bx)
  (hrow : w'.ownsRow 0 e size v' n xs) (hE : ∀ b, E b → W.heap.size ≤ b ∧ b < w'.heap.size) (hR : ∀ Fp' : Nat → Prop, (∀ b, Fp b → Fp' b) → (∀ b, E b → Fp' b) → R Fp' (w'.setRow bx #[v'])) :
  Left Fp W (fun Fp' V => BoxRow N bx ty e size n xs Fp' V ∧ R Fp' V) (w'.setRow bx #[v']) := by
 have hlt : bx < W.heap.size := hF bx hf
 have hbw : w'.heap[bx]? = some (.cells #[v] ty (0, 0)) := (hg.block bx (Nat.lt_of_lt_of_le hlt ha.size) (fun h => hvb h.symm)).trans ((ha.block bx hlt).trans hb)
 have hv'b : v'.ownBlock ≠ some bx := row_not hrow hbw (fun cur h => by injection h with _ h _; exact hty h)
 refine ⟨fun b => Fp b ∨ v'.ownBlock = some b ∨ E b, ⟨⟨?_, ?_, ?_, ?_, fun b hb1 hnf => ?_⟩, fun b hb1 => ?_⟩, fun b hb1 => ?_, ⟨v', setRow_heap _ _ _ _ _ _ hbw, row_block hrow fun b h => setRow_other _ _ _ _ (fun e' => hv'b (by rw [h, e'])), .inl hf, fun b h => ⟨.inr (.inl h), ?_⟩⟩, hR _ (fun b h => .inl h) (fun b h => .inr (.inr h))⟩
 ·exact hg.os.trans ha.os
 ·exact hg.tape.trans ha.tape
 ·exact hg.output.trans ha.output
 ·simp; exact Nat.le_trans ha.size hg.size
 ·rw [setRow_other _ _ _ _ (fun e' => hnf (by rw [e']; exact hf))]
  exact (hg.block b (Nat.lt_of_lt_of_le hb1 ha.size) (fun h => hnf (hv b h.symm).1)).trans (ha.block b hb1)
 ·rcases hb1 with h | h | h
  ·exact .inl h
  ·rcases hnew b h with h | h
   ·exact .inl (hv b h).1
   ·have := ha.size; exact .inr (by omega)
  ·exact .inr (hE b h).1
 ·have h1 := ha.size
  have h2 := hg.size
  simp
  rcases hb1 with h | h | h
  ·have := hF b h; omega
  ·exact row_lt hrow h
  ·exact (hE b h).2
 ·rcases hnew b h with h | h
  ·exact (hv b h).2
  ·have := ha.size; omega
def itemRow (xl : Int) (e : Ent) (A : Option Addr) (c : Nat) : Array Value := #[.int .i64 xl, .int .i64 e.d.kind, strV e.d.name, strV e.d.text, .slice A e.d.attrs.length c]
theorem items_step {t mb : Nat} {y : Lay} {g : Int → Option Ent} {root next : Int} {n : Nat} {N : Nat} {ys : List (Int × Int)} {xi xl : Int} {en : Ent} (hen : g xi = some en) (hys : ys.length ≤ 1000000) {Fq : Nat → Prop} {W : World} {S : List Slot} {v : Value} (hS1 : S.map (·.1) = ys.map (itemG g))
  (hb : W.heap[N + 1]? = some (.cells #[v] 34 (0, 0))) (hrow : W.ownsRow 0 62 5 v ys.length (S.flatMap cellsI)) (hf : Fq (N + 1)) (hv : ∀ b, v.ownBlock = some b → Fq b ∧ N ≤ b)
  (hS3 : ∀ s ∈ S, AttrsOwn W N s.2.1 s.2.2 s.1.attrs ∧ ∀ b, (Value.slice s.2.1 s.1.attrs.length s.2.2).ownBlock = some b → Fq b) (htW : TreeAt W t mb y g root next n) (hlow : ∀ b, Mine t mb y g b → b < N)
  (hbt : W.heap[N]? = some (.cells #[.pointer (some ⟨t, 0, none⟩)] 23 (0, 0))) (hF : ∀ b, Fq b → b < W.heap.size) (hN : N ≤ W.heap.size)
  (w5 : World) (A5 : Option Addr) (c5 : Nat) (h5 : AttrsOwn w5 W.heap.size A5 c5 en.d.attrs) (hb5 : Below W.heap.size W w5) :
  ∃ pa pn pc w', (Builtin.append_ #[34, 34] 34 #[v, .slice (some ⟨w5.heap.size, 0, none⟩) 1 1]).run Tryz.prog (w5.alloc (.cells (itemRow xl en A5 c5) 62)) = .ok (.slice pa pn pc) w' ∧
   TreeAt w5 t mb y g root next n ∧ TreeAt (w5.alloc (.cells (itemRow xl en A5 c5) 62)) t mb y g root next n ∧ TreeAt w' t mb y g root next n ∧ TreeAt (w'.setRow (N + 1) #[.slice pa pn pc]) t mb y g root next n ∧
   w5.heap[N + 1]? = some (.cells #[v] 34 (0, 0)) ∧ w'.heap[N + 1]? = some (.cells #[v] 34 (0, 0)) ∧
   Left Fq W (fun Fp' V => ItemsIn N (N + 1) g (ys ++ [(xi, xl)]) Fp' V ∧ TreeAt V t mb y g root next n ∧ V.heap[N]? = some (.cells #[.pointer (some ⟨t, 0, none⟩)] 23 (0, 0))) (w'.setRow (N + 1) #[.slice pa pn pc]) := by
 obtain ⟨Wa, hWa⟩ : ∃ Wa, Wa = w5.alloc (.cells (itemRow xl en A5 c5) 62) := ⟨_, rfl⟩
 have hb5a : Below w5.heap.size w5 Wa := by rw [hWa]; exact (Below.refl _ w5).alloc (Nat.le_refl _) _
 have hba : Below W.heap.size W Wa := hb5.trans (hb5a.mono hb5.size)
 have hXa : Wa.heap[w5.heap.size]? = some (.cells (itemRow xl en A5 c5) 62 (0, 0)) := by rw [hWa]; exact heap_alloc_new w5 _
 have hrowa : Wa.ownsRow 0 62 5 v ys.length (S.flatMap cellsI) := row_block hrow fun b hb => hba.block b (row_lt hrow hb)
 let s0 : Slot := (en.d.at xl, A5, c5)
 obtain ⟨v', w', hr, hrow', hg', hf'⟩ := run_appendG (P := Tryz.prog) Wa 34 34 62 _ 5 72 Tryz.underlying34 infoItem rfl (by decide) (by decide) v ys.length _ hrowa ⟨w5.heap.size, 0, none⟩ 1 1 (cellsI s0) (by decide) rfl (by
  intro j u0 hj
  rw [add_zero_block]
  exact cell_row hXa j _ (by rw [← hj]; rcases j with _ | _ | _ | _ | _ | j <;> rfl)) (cellsI_one' s0) (by omega) (by decide)
 have hvb : v.ownBlock ≠ some (N + 1) := row_not hrow hb (fun cur h => by injection h with _ h _; exact absurd h (by decide))
 have hvt : v.ownBlock ≠ some N := row_not hrow hbt (fun cur h => by injection h with _ h _; exact absurd h (by decide))
 obtain ⟨pa, pn, pc, rfl⟩ : ∃ pa pn pc, v' = .slice pa pn pc := by
  rcases hrow'.2 with ⟨h, _⟩ | ⟨_, _, _, h, _⟩
  ·exact ⟨_, _, _, h⟩
  ·exact ⟨_, _, _, h⟩
 have hmine : ∀ b, Mine t mb y g b → v.ownBlock ≠ some b := fun b hm h => by have := hlow b hm; have := (hv b h).2; omega
 have tw' : TreeAt w' t mb y g root next n := (htW.below hba).keep fun b hm => hg'.block b ((htW.below hba).lt hm) (fun h => hmine b hm h.symm)
 have tfin : TreeAt (w'.setRow (N + 1) #[.slice pa pn pc]) t mb y g root next n := tw'.keep fun b hm => setRow_other _ _ _ _ (fun e' => by have := hlow b hm; omega)
 have hbw : w'.heap[N + 1]? = some (.cells #[v] 34 (0, 0)) := (hg'.block _ (Nat.lt_of_lt_of_le (hF _ hf) hba.size) (fun h => hvb h.symm)).trans ((hba.block _ (hF _ hf)).trans hb)
 have hltN : N < W.heap.size := (Array.getElem?_eq_some_iff.1 hbt).1
 have hbtw : (w'.setRow (N + 1) #[.slice pa pn pc]).heap[N]? = some (.cells #[.pointer (some ⟨t, 0, none⟩)] 23 (0, 0)) := by
  rw [setRow_other _ _ _ _ (by omega)]
  exact (hg'.block _ (Nat.lt_of_lt_of_le hltN hba.size) (fun h => hvt h.symm)).trans ((hba.block _ hltN).trans hbt)
 rw [hWa] at hr
 refine ⟨pa, pn, pc, w', hr, htW.below hb5, by rw [← hWa]; exact htW.below hba, tw', tfin, (hb5.block _ (hF _ hf)).trans hb, hbw, ?_⟩
 obtain ⟨Fp', h1, h2, h3, h4⟩ := box_left2 (e := 62) (size := 5) (n := (ys ++ [(xi, xl)]).length) (xs := (S ++ [s0]).flatMap cellsI) (E := fun b => (Value.slice A5 en.d.attrs.length c5).ownBlock = some b) (R := fun Fp' V => ∀ s ∈ S ++ [s0], AttrsOwn V N s.2.1 s.2.2 s.1.attrs ∧ ∀ b, (Value.slice s.2.1 s.1.attrs.length s.2.2).ownBlock = some b → Fp' b)
  hb hf hv hF hN (by decide) hba hg' hf' hvb (by rw [List.flatMap_append, List.length_append]; simpa using hrow') (fun b hb => ⟨(h5.lt b hb).1, Nat.lt_of_lt_of_le (h5.lt b hb).2 (Nat.le_trans hb5a.size hg'.size)⟩) (by
   intro Fp' hsub hsubE s hs
   have hother : ∀ (V : World) (s : Slot), AttrsOwn V N s.2.1 s.2.2 s.1.attrs → Below V.heap.size V Wa → (∀ b, v.ownBlock = some b → ∃ cur, Wa.heap[b]? = some (.cells cur 62 (0, 0))) → AttrsOwn (w'.setRow (N + 1) #[.slice pa pn pc]) N s.2.1 s.2.2 s.1.attrs := by
    intro V s ha hV hvty
    have ha1 : AttrsOwn Wa N s.2.1 s.2.2 s.1.attrs := row_block ha fun b hb => hV.block b (row_lt (ha.mono (Nat.zero_le _)) hb)
    have ha0 := World.ownsRow.mono ha1 (Nat.zero_le _)
    have ha2 : AttrsOwn w' N s.2.1 s.2.2 s.1.attrs := row_block ha1 fun b hb => hg'.block b (row_lt ha0 hb) (fun h => by
     obtain ⟨cur, hc⟩ := row_type ha0 hb
     obtain ⟨cur', hc'⟩ := hvty b h.symm
     rw [hc] at hc'
     injection hc' with hc'
     injection hc' with _ hc' _
     exact absurd hc' (by decide))
    have ha3 := World.ownsRow.mono ha2 (Nat.zero_le _)
    exact row_block ha2 fun b hb' => setRow_other _ _ _ _ (fun e' => row_not ha3 hbw (fun cur h => by injection h with _ h _; exact absurd h (by decide)) (by rw [hb', e']))
   have hvty : ∀ b, v.ownBlock = some b → ∃ cur, Wa.heap[b]? = some (.cells cur 62 (0, 0)) := fun b h => row_type hrowa h
   rcases List.mem_append.1 hs with hs | hs
   ·exact ⟨hother W s (hS3 s hs).1 hba hvty, fun b h => hsub b ((hS3 s hs).2 b h)⟩
   ·rw [List.mem_singleton.1 hs]
    exact ⟨hother w5 s0 (World.ownsRow.mono h5 hN) hb5a hvty, fun b h => hsubE b h⟩)
 exact ⟨Fp', h1, h2, ⟨S ++ [s0], by rw [List.map_append, List.map_append, hS1]; simp [itemG, hen, s0], h3, h4⟩, tfin, hbtw⟩
theorem Items_g {t mb : Nat} {y : Lay} {g : Int → Option Ent} {root next : Int} {n : Nat} (id : Int) (xs : List (Int × Int)) (hxs : xs.length ≤ 1000000) (w : World) (ht : TreeAt w t mb y g root next n)
  (hit : IterB t mb y g root next n id 0 xs) (hxg : ∀ x ∈ xs, ∃ e, g x.1 = some e) (hwf : ∀ id e, g id = some e → wfI id) (hal : ∀ id e, g id = some e → e.d.attrs.length ≤ 1000000000) :
  Calls Tryz.prog 22 #[.pointer (some ⟨t, 0, none⟩), .int .i64 id] w fun e w' => ∃ A c S, e = .returned (.slice A S.length c) ∧ S.map (·.1) = xs.map (itemG g) ∧ ItemsOwn w' w.heap.size A c S ∧
   (∀ s ∈ S, AttrsOwn w' w.heap.size s.2.1 s.2.2 s.1.attrs) ∧ Below w.heap.size w w' := by
 have HIT := Lib.hid hit
 clear hit
 obtain ⟨N, hN⟩ : ∃ N, Hid (w.heap.size = N) := ⟨_, rfl⟩
 obtain ⟨W1, hW1⟩ : ∃ W1, Hid (W1 = (w.alloc (.cells #[.pointer (some ⟨t, 0, none⟩)] 23)).alloc (.cells #[.slice none 0 0] 34)) := ⟨_, rfl⟩
 have hb1 : Below w.heap.size w W1 := by rw [hW1.out]; exact ((Below.refl _ w).alloc (Nat.le_refl _) _).alloc (by simp) _
 have hx1 : W1.heap[w.heap.size + 1]? = some (.cells #[.slice none 0 0] 34 (0, 0)) := by
  rw [hW1.out]
  have := heap_alloc_new (w.alloc (.cells #[.pointer (some ⟨t, 0, none⟩)] 23)) (.cells #[.slice none 0 0] 34)
  simpa using this
 have hy1 : W1.heap[w.heap.size]? = some (.cells #[.pointer (some ⟨t, 0, none⟩)] 23 (0, 0)) := by
  rw [hW1.out]
  exact (Below.heap_alloc _ _ _ (by simp)).trans (heap_alloc_new w _)
 have hz1 : W1.heap.size = w.heap.size + 2 := by rw [hW1.out]; simp
 have ht1 : TreeAt W1 t mb y g root next n := ht.below hb1
 have c1 := cell_row hy1 0 _ rfl
 rw [hW1.out] at c1
 have HB1 := Lib.hid hb1
 have HT1 := Lib.hid ht1
 have HX1 := Lib.hid hx1
 have HY1 := Lib.hid hy1
 have HTW := Lib.hid ht
 clear hb1 hx1 hy1 ht1 ht
 refine callsIn_wide.1 (callsIn_of_wp_marks (n := 0) Tryz.func22 rfl trivial ?_ rfl)
 simp only [Tryz.ntmps22, List.size_toArray, List.length_cons, List.length_nil, Nat.reduceAdd, Nat.reduceSub, Array.replicate_succ, Array.replicate_zero, List.push_toArray, List.append_toArray, List.nil_append, List.cons_append]
 gi_wp2
 rw [← hW1.out]
 clear c1
 refine ⟨trivial, rfl, ?_⟩
 refine (callsIn_wide.2 (below_boxes W1 t id 0)).mono ?_
 rintro e w4 ⟨rfl, hb4, hz4, k1, k2, k3⟩
 have hit := HIT.out w4 _ _ _ (HT1.out.below hb4) k1 k2 k3
 have hbx4 : w4.heap[w.heap.size + 1]? = some (.cells #[.slice none 0 0] 34 (0, 0)) := (hb4.block _ (by omega)).trans HX1.out
 have hby4 : w4.heap[w.heap.size]? = some (.cells #[.pointer (some ⟨t, 0, none⟩)] 23 (0, 0)) := (hb4.block _ (by omega)).trans HY1.out
 have hb04 : Below w.heap.size w w4 := HB1.out.trans (hb4.mono (by omega))
 have HI := Lib.hid hit
 have HT4 := Lib.hid (HT1.out.below hb4)
 have HX4 := Lib.hid hbx4
 have HY4 := Lib.hid hby4
 have HB4 := Lib.hid hb04
 clear hit hbx4 hby4 hb04 hb4 k1 k2 k3
 rw [hN.out] at HX4 HY4 HB4 hz1
 obtain ⟨Z, hZ⟩ : ∃ Z, Hid (W1.heap.size = Z) := ⟨_, rfl⟩
 rw [hZ.out] at HI hz4 hz1
 rw [hN.out, hZ.out]
 have HZ1 := Lib.hid hz1
 have HZ4 := Lib.hid hz4
 clear hz1 hz4
 gi_wp2
 refine range_law (gf := 78) (lb := #[.pointer (some ⟨Z, 0, none⟩), .pointer (some ⟨Z + 1, 0, none⟩), .pointer (some ⟨Z + 2, 0, none⟩)]) rfl (enters_of Tryz.func78 (by kernel_rfl) rfl)
  HI.out (fun b hb => ⟨?dlt, rfl⟩) (Nat.le_refl _) (fun _ => rfl) (fun b => b = N + 1) (fun b hb => ⟨?clt, ?cnd⟩)
  (fun i Fq W' => ItemsIn N (N + 1) g (xs.take i) Fq W' ∧ TreeAt W' t mb y g root next n ∧ W'.heap[N]? = some (.cells #[.pointer (some ⟨t, 0, none⟩)] 23 (0, 0)))
  (fun c Fq W' => False)
  ?sI ?sX ?start
  (fun x => { tmps := #[Value.pointer (some ⟨t, 0, none⟩), Value.int .i64 id, Value.pointer (some ⟨N, 0, none⟩), undef, Value.slice none 0 0, Value.pointer (some ⟨N + 1, 0, none⟩), Value.int .i64 x.1, Value.int .i64 x.2, undef, Value.pointer (some ⟨t, 0, none⟩), Value.int .i64 id, Value.func (.func 78) #[] #[.pointer (some ⟨Z, 0, none⟩), .pointer (some ⟨Z + 1, 0, none⟩), .pointer (some ⟨Z + 2, 0, none⟩)], Value.int .i64 x.1, Value.int .i64 x.2, undef, undef, undef, undef, undef, undef, undef, undef, undef, undef, undef, undef, undef, undef, undef, undef, undef, undef, undef, undef, undef, undef, undef, undef, undef, undef, undef, undef, undef, undef, undef, undef, undef], defers := [] }) ?assign ?body ?done ?stop
 case dlt =>
  have h1 := HZ1.out
  have h4 := HZ4.out
  rcases hb with hb | rfl | rfl | rfl
  ·exact HT4.out.lt hb
  ·omega
  ·omega
  ·omega
 case clt => have h1 := HZ1.out; have h4 := HZ4.out; omega
 case cnd =>
  have h1 := HZ1.out
  have h4 := HZ4.out
  rintro (hm | h | h | h)
  ·have := HTW.out.lt hm; rw [hN.out] at this; omega
  ·omega
  ·omega
  ·omega
 case sI =>
  have h1 := HZ1.out
  have h4 := HZ4.out
  rintro i Fq A B ⟨q1, q2, q3⟩ hk
  exact ⟨ItemsIn.stab Fq A B q1 hk, q2.keep fun b hm => hk.block (q2.lt hm) (.inl (by have := HTW.out.lt hm; rw [hN.out] at this; omega)), (hk.block (Array.getElem?_eq_some_iff.1 q3).1 (.inl (by omega))).trans q3⟩
 case sX => intro c Fq A B h _; exact h
 case start => exact ⟨⟨[], by simp, ⟨_, HX4.out, ⟨by simp, .inl ⟨rfl, rfl⟩⟩, rfl, fun b h => by simp [Value.ownBlock] at h⟩, by simp⟩, HT4.out, HY4.out⟩
 case assign =>
  intro l' x W' K hK
  dsimp only [encV]
  gi_wp2
  exact hK
 case stop => rintro c W5 ⟨Fq, _, _, hf, _⟩; exact hf.elim
 case body =>
  rintro l' i ⟨xi, xl⟩ Fq W' hx ⟨⟨S, hS1, ⟨v, hb, hrow, hf, hv⟩, hS3⟩, htW', hbt⟩ hW' hF
  have hil : i < xs.length := (List.getElem?_eq_some_iff.1 hx).1
  obtain ⟨en, hen⟩ := hxg (xi, xl) (List.mem_of_getElem? hx)
  have hlk := (htW'.look_yes hen (hwf _ _ hen)).2
  have hstep := @items_step t mb y g root next n N (xs.take i) xi xl en hen (by rw [List.length_take]; omega) Fq W' S v hS1 hb hrow hf hv hS3 htW' (fun b hm => by have := HTW.out.lt hm; rw [hN.out] at this; exact this) hbt hF (by have h1 := HZ1.out; have h4 := HZ4.out; omega)
  have hxt : xs.take i ++ [(xi, xl)] = xs.take (i + 1) := by rw [List.take_add_one, hx]; rfl
  rw [hxt] at hstep
  have c0 := htW'.c0
  have fb := cell_row hbt 0 _ rfl
  have fo := cell_row hb 0 _ rfl
  have HSTEP := Lib.hid hstep
  have HT' := Lib.hid htW'
  have HAL : Hid (en.d.attrs.length ≤ 1000000000) := hal _ _ hen
  have HEN := Lib.hid hen
  obtain ⟨A0, c0', hat, _, _, _, _⟩ := row_shape (htW'.att _ _ hen)
  have HAT := Lib.hid hat
  have HROW : Hid (AttrsOwn W' 0 A0 c0' en.d.attrs) := by
   have := htW'.att _ _ hen
   rw [hat] at this
   exact this
  clear hS1 hb hrow hf hv hS3 htW' hbt hF hW' hx hstep hxt hen hat
  gi_wp2
  have hsame : ∀ b : Nat, W'.drew.heap[b]? = W'.heap[b]? := fun _ => rfl
  have hkS : ∀ V : World, TreeAt V t mb y g root next n → V.cell? ⟨y.nb xi, 2, none⟩ = some (.int .i64 en.d.kind) ∧ V.cell? ⟨y.nb xi, 4, none⟩ = some (.string ⟨en.d.name.toArray⟩) ∧ V.cell? ⟨y.nb xi, 5, none⟩ = some (.string ⟨en.d.text.toArray⟩) ∧ V.cell? ⟨y.nb xi, 6, none⟩ = some (.slice A0 en.d.attrs.length c0') := fun V h =>
   ⟨h.n2 HEN.out, h.n4 HEN.out, h.n5 HEN.out, by rw [← HAT.out]; exact h.n6 HEN.out⟩
  have HKS := Lib.hid hkS
  have fo' : W'.drew.cell? ⟨N + 1, 0, none⟩ = some v := fo
  have HTD : Hid (TreeAt W'.drew t mb y g root next n) := HT'.out.keep fun _ _ => rfl
  clear hkS hlk c0 fb fo hsame
  refine wpIn_region_held_round (fun V => V.cell? ⟨y.nb xi, 2, none⟩ = some (.int .i64 en.d.kind) ∧ V.cell? ⟨y.nb xi, 4, none⟩ = some (.string ⟨en.d.name.toArray⟩) ∧ V.cell? ⟨y.nb xi, 5, none⟩ = some (.string ⟨en.d.text.toArray⟩) ∧ V.cell? ⟨y.nb xi, 6, none⟩ = some (.slice A0 en.d.attrs.length c0')) (by kernel_rfl) (by kernel_rfl) (HKS.out _ HTD.out) (fun hHeld => ?_)
  refine tkv 1 (h := tkv 2 (h := tkv 3 (h := tkv 4 (h := tkv 5 (h := tkv 6 (h := ?_))))))
  refine tkv 7 (h := tkv 8 (h := tkv 9 (h := tkv 10 (h := tkv 11 (h := tkv 12 (h := ?_))))))
  refine tkv 13 (h := tkv 14 (h := tkv 15 (h := tkv 16 (h := tkv 17 (h := tkv 18 (h := ?_))))))
  refine tkv 19 (h := tkv 20 (h := tkv 21 (h := ?_)))
  refine wpAnyH_ready (rs := [0, 22]) (by kernel_rfl) (by simp) ?_
  refine AllReadyH.cons (o := ⟨_, _, _, _, _, _⟩) rfl (fun K hK => ?_) (AllReadyH.cons (o := ⟨_, _, _, _, _, _⟩) rfl (fun K hK => ?_) AllReadyH.nil)
  ·go_simp
   refine hK.out _ _ (HKS.out _ HTD.out) (fun hHeld => ?_)
   clear hK K
   try go_frame
   refine rdy 22 (fun K hK => ?_)
   go_simp
   refine (Clone_any en.d.attrs A0 c0' W'.drew (HROW.out.at) HAL.out).mono ?_
   rintro e w5 ⟨A5, c5, rfl, hown5, hb5⟩
   obtain ⟨pa, pn, pc, w', hr, ht5, hta, htw, htf, hb5x, hbwx, hleft⟩ := HSTEP.out w5 A5 c5 hown5 (((Below.refl _ W').drew).trans hb5)
   have HT5 := Lib.hid ht5
   have HTA := Lib.hid hta
   have HTW' := Lib.hid htw
   have HTF := Lib.hid htf
   have HBX := Lib.hid hbwx
   have HLEFT := Lib.hid hleft
   have fo5 := cell_row hb5x 0 _ rfl
   have fow := cell_row hbwx 0 _ rfl
   have fof := free_row hbwx 0
   have foa : (w5.alloc (.cells (itemRow xl en A5 c5) 62)).cell? ⟨N + 1, 0, none⟩ = some v := (World.cell?_alloc_lt _ _ _ (Array.getElem?_eq_some_iff.1 hb5x).1).trans fo5
   dsimp only [itemRow, strV] at foa
   have HR := Lib.hid hr
   clear hr ht5 hta htw htf hb5x hbwx hleft hown5 hb5
   go_wp2_with fail
   refine hK.out _ _ (HKS.out _ HT5.out) (fun hHeld => ?_)
   clear hK K
   try go_frame
   refine tkv 23 (h := ?_)
   refine rdy 24 (fun K hK => ?_)
   go_simp
   refine hK.out _ _ (HKS.out _ HTA.out) (fun hHeld => ?_)
   clear hK K
   try go_frame
   refine rdy 25 (fun K hK => ?_)
   refine step_append_runI rfl (.tmp 20) (.tmp 44) 34 34 rfl v (.slice (some ⟨w5.heap.size, 0, none⟩) 1 1) (by simp [Act.eval]) (by simp [Act.eval]) HR.out ?_
   refine hK.out _ _ (HKS.out _ HTW'.out) (fun hHeld => ?_)
   clear hK K
   try go_frame
   refine rdy 26 (fun K hK => ?_)
   go_simp
   rw [setCell_box HBX.out]
   refine hK.out _ _ (HKS.out _ HTF.out) (fun hHeld => ?_)
   clear hK K
   try go_frame
   refine wpAnyH_done (by kernel_rfl) ?_ _
   clear hHeld
   dsimp only [onlyN]
   gi_wp2
   exact HLEFT.out
  ·go_simp
   refine (Clone_any en.d.attrs A0 c0' W'.drew (HROW.out.at) HAL.out).mono ?_
   rintro e w5 ⟨A5, c5, rfl, hown5, hb5⟩
   obtain ⟨pa, pn, pc, w', hr, ht5, hta, htw, htf, hb5x, hbwx, hleft⟩ := HSTEP.out w5 A5 c5 hown5 (((Below.refl _ W').drew).trans hb5)
   have HT5 := Lib.hid ht5
   have HTA := Lib.hid hta
   have HTW' := Lib.hid htw
   have HTF := Lib.hid htf
   have HBX := Lib.hid hbwx
   have HLEFT := Lib.hid hleft
   have fo5 := cell_row hb5x 0 _ rfl
   have fow := cell_row hbwx 0 _ rfl
   have fof := free_row hbwx 0
   have foa : (w5.alloc (.cells (itemRow xl en A5 c5) 62)).cell? ⟨N + 1, 0, none⟩ = some v := (World.cell?_alloc_lt _ _ _ (Array.getElem?_eq_some_iff.1 hb5x).1).trans fo5
   dsimp only [itemRow, strV] at foa
   have HR := Lib.hid hr
   clear hr ht5 hta htw htf hb5x hbwx hleft hown5 hb5
   go_wp2_with fail
   refine hK.out _ _ (HKS.out _ HT5.out) (fun hHeld => ?_)
   clear hK K
   try go_frame
   refine tkv 23 (h := ?_)
   refine wpAnyH_ready (rs := [0, 24]) (by kernel_rfl) (by simp) ?_
   refine AllReadyH.cons (o := ⟨_, _, _, _, _, _⟩) rfl (fun K hK => ?_) (AllReadyH.cons (o := ⟨_, _, _, _, _, _⟩) rfl (fun K hK => ?_) AllReadyH.nil)
   ·go_simp
    refine hK.out _ _ (HKS.out _ HT5.out) (fun hHeld => ?_)
    clear hK K
    try go_frame
    refine rdy 24 (fun K hK => ?_)
    go_simp
    refine hK.out _ _ (HKS.out _ HTA.out) (fun hHeld => ?_)
    clear hK K
    try go_frame
    refine rdy 25 (fun K hK => ?_)
    refine step_append_runI rfl (.tmp 20) (.tmp 44) 34 34 rfl v (.slice (some ⟨w5.heap.size, 0, none⟩) 1 1) (by simp [Act.eval]) (by simp [Act.eval]) HR.out ?_
    refine hK.out _ _ (HKS.out _ HTW'.out) (fun hHeld => ?_)
    clear hK K
    try go_frame
    refine rdy 26 (fun K hK => ?_)
    go_simp
    rw [setCell_box HBX.out]
    refine hK.out _ _ (HKS.out _ HTF.out) (fun hHeld => ?_)
    clear hK K
    try go_frame
    refine wpAnyH_done (by kernel_rfl) ?_ _
    clear hHeld
    dsimp only [onlyN]
    gi_wp2
    exact HLEFT.out
   ·go_simp
    refine hK.out _ _ (HKS.out _ HTA.out) (fun hHeld => ?_)
    clear hK K
    try go_frame
    refine rdy 0 (fun K hK => ?_)
    go_simp
    refine hK.out _ _ (HKS.out _ HTA.out) (fun hHeld => ?_)
    clear hK K
    try go_frame
    refine rdy 25 (fun K hK => ?_)
    refine step_append_runI rfl (.tmp 20) (.tmp 44) 34 34 rfl v (.slice (some ⟨w5.heap.size, 0, none⟩) 1 1) (by simp [Act.eval]) (by simp [Act.eval]) HR.out ?_
    refine hK.out _ _ (HKS.out _ HTW'.out) (fun hHeld => ?_)
    clear hK K
    try go_frame
    refine rdy 26 (fun K hK => ?_)
    go_simp
    rw [setCell_box HBX.out]
    refine hK.out _ _ (HKS.out _ HTF.out) (fun hHeld => ?_)
    clear hK K
    try go_frame
    refine wpAnyH_done (by kernel_rfl) ?_ _
    clear hHeld
    dsimp only [onlyN]
    gi_wp2
    exact HLEFT.out
 case done =>
  rintro W5 ⟨Fq, r1, r2, ⟨⟨S, hS1, ⟨v, hb, hrow, hf, hv⟩, hS3⟩, _, _⟩, qn⟩ hK5
  have fb := cell_row hb 0 _ rfl
  have HR1 := Lib.hid r1
  have HROW := Lib.hid hrow
  have HV := Lib.hid hv
  have HS1 := Lib.hid hS1
  have HS3 := Lib.hid hS3
  have hne : Hid (∀ b, Fq b → b ≠ w4.heap.size) := fun b h e => qn (e ▸ h)
  have HK5 := Lib.hid hK5
  clear r1 r2 hb hrow hf hv qn hS1 hS3 hK5
  gi_wp2
  obtain ⟨A, c, hvs, _⟩ := row_shape HROW.out
  have hSl : S.length = xs.length := by have := congrArg List.length HS1.out; simpa using this
  refine marks_leave [w4.heap.size] W5 (by simp) (fun b hb => by simp at hb; subst hb; exact HK5.out) (fun w' hw' => ⟨v, results_tmp Tryz.results22 _ _ _, A, c, S, ?_, ?_, ?_, ?_, ?_⟩)
  ·rw [hvs, hSl, List.take_length]
  ·rw [HS1.out, List.take_length]
  ·have h1 := HROW.out
   have h2 := row_block (w' := w') h1 fun b hb => hw'.block b (row_lt h1 hb) (fun hm => by simp at hm; exact hne.out b (HV.out b hb).1 hm)
   rw [List.take_length, ← hSl] at h2
   rw [List.take_length, ← hSl] at hvs
   rw [hN.out]
   refine own_up ?_ (fun b hb => (HV.out b (by rw [hvs]; exact hb)).2)
   rw [hvs] at h2
   exact h2
  ·intro s hs
   obtain ⟨q1, q2⟩ := HS3.out s hs
   rw [hN.out]
   exact row_block q1 fun b hb => hw'.block b (row_lt (World.ownsRow.mono q1 (Nat.zero_le _)) hb) (fun hm => by simp at hm; exact hne.out b (q2 b hb) hm)
  ·have h1 := HR1.out.1
   have h4 := HB4.out
   have hs := h4.size
   have hz1 := HZ1.out
   have hz4 := HZ4.out
   rw [hN.out]
   refine ⟨hw'.os.trans (h1.os.trans h4.os), hw'.tape.trans (h1.tape.trans h4.tape), hw'.output.trans (h1.output.trans h4.output), ?_, fun b hb => ?_⟩
   ·have := hw'.size; have := h1.size; omega
   ·exact (hw'.block b (Nat.lt_of_lt_of_le (show b < w4.heap.size by omega) h1.size) (fun hm => by simp at hm; omega)).trans ((h1.block b (by omega) (fun h => by omega)).trans (h4.block b hb))
end
section
open Go.RowKit Go.Shelf
theorem results_cellb {P : Program} {fn : Func} {p u : Tmp} {ty : TypeId} (h : fn.results = #[.cell p ty, .tmp u]) (tmps : Array Value) (w : World) (g : Nat) (t : TypeId) (cs : Array Value) (fr : Nat × Nat) (d : TypeDesc)
  (hp : tmps.getD p undef = .pointer (some ⟨g, 0, none⟩)) (hg : w.heap[g]? = some (.cells cs t fr))
  (hu : P.underlying ty = some d) (hd : (match d with | .struct _ | .array _ _ => true | _ => false) = true) (hi : (P.info? ty).map (·.size) = some cs.size) :
  (results fn tmps).run P w = .ok (.tuple #[.agg cs, tmps.getD u undef]) w := by
 have hp' : tmps[p]?.getD undef = .pointer (some ⟨g, 0, none⟩) := by simpa using hp
 simp [results, h, hp', asAddr, Result.andThen, run_loadVar_row w g t ty cs fr d hg hu hd hi]
def nodeR (id : Int) (e : Ent) (v : Value) : Array Value := #[.int .i64 id, .int .i64 e.par, .int .i64 e.d.kind, .int .i64 (e.kids.length : Int), strV e.d.name, strV e.d.text, v]
def nodeR0 (id : Int) (e : Ent) (v : Value) : Array Value := #[.int .i64 id, .int .i64 e.par, .int .i64 e.d.kind, .int .i64 0, strV e.d.name, strV e.d.text, v]
def nodeZ : Array Value := #[.int .i64 0, .int .i64 0, .int .i64 0, .int .i64 0, .string ⟨#[]⟩, .string ⟨#[]⟩, .slice none 0 0]
section
variable {w : World} {t mb : Nat} {y : Lay} {g : Int → Option Ent} {root next : Int} {n : Nat}
end
end
section
open Go.RowKit Go.Shelf
def DoP (t mb : Nat) (y : Lay) (f : Fo) (w : World) (a : Ans) (w' : World) : Prop := ∃ f' : Fo, a.1 = f'.flat 0 ∧ InvF f' a.2.1 ∧ TP t mb y (f.ent 0) w (f'.ent 0) (rootF f') a.2.1 f'.cnt w'
def DoI (t mb : Nat) (y : Lay) (f : Fo) (w : World) (a : Ans) (er : Ending) (w' : World) : Prop := er = .returned (.tuple #[.int .i64 a.2.2.1, .int .i64 a.2.2.2]) ∧ DoP t mb y f w a w'
def DoE (t mb : Nat) (y : Lay) (f : Fo) (w : World) (a : Ans) (er : Ending) (w' : World) : Prop := a.2.2.1 = 0 ∧ er = .returned (.int .i64 a.2.2.2) ∧ DoP t mb y f w a w'
section
variable {w : World} {t mb : Nat} {y : Lay} {f : Fo} {next : Int}
theorem same_tp (h : TreeAt w t mb y (f.ent 0) (rootF f) next f.cnt) (hi : InvF f next) {w' : World} (hb : Below w.heap.size w w') (id e : Int) : DoP t mb y f w (f.flat 0, next, id, e) w' :=
 ⟨f, rfl, hi, mb, y, h.below hb, Grows.of_below hb⟩
theorem Load_F (h : TreeAt w t mb y (f.ent 0) (rootF f) next f.cnt) (hi : InvF f next) (l : List ItemD) (A : Option Addr) (c B : Nat) (hl : StandI (Mine t mb y (f.ent 0)) w B A l) (hBw : B ≤ w.heap.size) (hs : SmallItems l) :
  Calls Tryz.prog 18 #[.pointer (some ⟨t, 0, none⟩), .slice A l.length c] w (DoI t mb y f w (loadL (f.flat 0) next l)) := by
 obtain ⟨n1, n2⟩ := hi.nx
 have hck : Hid (checkL l = ((checkL l).1, (checkL l).2)) := rfl
 unfold loadL
 by_cases h0 : (checkL l).2 = 0
 ·rw [if_neg (by simpa using h0)]
  rw [h0] at hck
  by_cases hm : 2147483647 < next + (l.length : Int)
  ·rw [if_pos hm]
   refine (Load_many h l A c (hl.now.more hBw) hs _ hck (by omega) (by omega) hm).mono ?_
   rintro er w' ⟨rfl, hb⟩
   exact ⟨rfl, same_tp h hi hb _ _⟩
  ·rw [if_neg hm]
   obtain ⟨F, q1, q2, _, _, s2, q3, q4, q5, q6⟩ := load_step h0 n1 (show next + (l.length : Int) ≤ 2147483647 by omega)
   refine (Load_yes h l A c B hl hBw hs _ hck n1 n2 (by omega) s2 q3).mono ?_
   rintro er w' ⟨rfl, htp⟩
   rw [q4, q5, q6] at htp
   exact ⟨rfl, F, q2.symm, q1, htp⟩
 ·rw [if_pos h0]
  refine (Load_no l A c (hl.now.more hBw) hs _ _ hck h0).mono ?_
  rintro er w' ⟨rfl, hb⟩
  exact ⟨rfl, same_tp h hi hb _ _⟩
theorem Insert_F (h : TreeAt w t mb y (f.ent 0) (rootF f) next f.cnt) (hi : InvF f next) {id : Int} (hw : wfI id) (pl : Int) (l : List ItemD) (A : Option Addr) (c B : Nat) (hl : StandI (Mine t mb y (f.ent 0)) w B A l) (hBw : B ≤ w.heap.size) (hs : SmallItems l) :
  Calls Tryz.prog 29 #[.pointer (some ⟨t, 0, none⟩), .int .i64 id, .int .i64 pl, .slice A l.length c] w (DoI t mb y f w (insertL (f.flat 0) next id pl l)) := by
 obtain ⟨n1, n2⟩ := hi.nx
 have hcn := hi.cnt
 cases he : f.ent 0 id with
 | none =>
  unfold insertL
  rw [find_ent he]
  refine (Insert_no h hw he pl _).mono ?_
  rintro er w' ⟨rfl, rfl⟩
  exact ⟨rfl, same_tp h hi (Below.refl _ _) _ _⟩
 | some e =>
  obtain ⟨lv, ks, A1, B1, hst, hkids, _, hlv, _, hLev, _⟩ := hi.stand he
  have hkn : e.kids.length ≤ 1000000 := by have := hi.kidsN id e he; omega
  unfold insertL
  rw [hst.find]
  simp only [hst.get]
  rw [hst.kids_len, ← hkids]
  show Calls _ _ _ _ (DoI t mb y f w (if e.d.kind ≠ 1 then _ else _))
  by_cases hk : e.d.kind = 1
  ·rw [if_neg (by simpa using hk)]
   by_cases hp : pl < 0 ∨ (e.kids.length : Int) < pl
   ·rw [if_pos hp]
    refine (Insert_place h hw he hk hkn pl hp _).mono ?_
    rintro er w' ⟨rfl, rfl⟩
    exact ⟨rfl, same_tp h hi (Below.refl _ _) _ _⟩
   ·rw [if_neg hp]
    obtain ⟨m, rfl⟩ : ∃ m : Nat, pl = (m : Int) := ⟨pl.toNat, by omega⟩
    have hpm : m ≤ e.kids.length := by omega
    have hfo : Hid (forestL l = ((forestL l).1, (forestL l).2)) := rfl
    by_cases h0 : (forestL l).2 = 0
    ·rw [if_neg (by simpa using h0)]
     rw [h0] at hfo
     obtain ⟨_, _, _, _, _, _, d0, _, z, hz, hzd⟩ := forest_ok l _ hfo.out
     obtain ⟨dp, hdp⟩ : ∃ dp, (forestL l).1 = dp := ⟨_, rfl⟩
     rw [hdp] at hfo d0 hzd ⊢
     show Calls _ _ _ _ (DoI t mb y f w (if 40 ≤ lv + 1 + dp then _ else _))
     have hd1 : dp ≤ 1000000000 := by
      -- a forest's levels rise by one at most
      have hle : ∀ (m : Nat) (q : List ItemD) (a : ItemD), q.length ≤ m → Steps (a :: q) → ∀ x ∈ q, x.level ≤ a.level + (q.length : Int) := by
       intro m
       induction m with
       | zero => intro q a hq _ x hx; have : q = [] := List.length_eq_zero_iff.1 (by omega); rw [this] at hx; cases hx
       | succ m ih =>
        intro q a hq hst x hx
        cases q with
        | nil => cases hx
        | cons b q =>
         have h1 := hst.1
         unfold stepOk at h1
         have h2 : b.level ≤ a.level + 1 := by split at h1 <;> omega
         rcases List.mem_cons.1 hx with rfl | hx
         ·simp; omega
         ·have := ih q b (by simp at hq; omega) hst.2 x hx
          simp; omega
      obtain ⟨x0, r0, e0, e1, e2, _⟩ := forest_ok l _ hfo.out
      rw [e0] at hz e2
      have hlen := hs.1
      rw [e0] at hlen
      simp at hlen
      rcases List.mem_cons.1 hz with rfl | hz
      ·omega
      ·have := hle _ r0 x0 (Nat.le_refl _) e2 z hz
       omega
     have hlt : (lv.toNat : Int) = lv := Int.toNat_of_nonneg hst.lv0
     by_cases hdeep : 40 ≤ lv + 1 + dp
     ·rw [if_pos hdeep]
      refine (Insert_deep h hw he hk hkn m hpm l A c B hl.now hBw hs dp hfo ⟨d0, hd1⟩ hi.wf lv.toNat (by omega) hLev (by omega)).mono ?_
      rintro er w' ⟨rfl, hb⟩
      exact ⟨rfl, same_tp h hi hb _ _⟩
     ·rw [if_neg hdeep]
      rw [Fo.flat_len]
      by_cases hm : 1000 < f.cnt + l.length ∨ 2147483647 < next + (l.length : Int)
      ·rw [if_pos hm]
       refine (Insert_many h hw he hk hkn m hpm l A c B hl.now hBw hs dp hfo ⟨d0, hd1⟩ hi.wf lv.toNat (by omega) hLev (by omega) (by omega) (by omega) (by omega) hm).mono ?_
       rintro er w' ⟨rfl, hb⟩
       exact ⟨rfl, same_tp h hi hb _ _⟩
      ·rw [if_neg hm]
       obtain ⟨f', q1, q2, q3, s2, q4, q5, q6, q7⟩ := insert_step hi hst hk m (by rw [← hkids]; exact hpm) hfo.out (by omega) (by omega) (show next + (l.length : Int) ≤ 2147483647 by omega)
       refine (Insert_yes h hw he hk (fun id e he => by have := hi.kidsN id e he; omega) m hpm l A c B hl hBw hs dp hfo ⟨d0, hd1⟩ hi.wf lv.toNat (by omega) hLev (by omega) n1 n2 (by omega) (by omega) s2 q4).mono ?_
       rintro er w' ⟨rfl, htp⟩
       rw [q5, q6, q7] at htp
       exact ⟨rfl, f', q2.symm, q1, htp⟩
    ·rw [if_pos h0]
     refine (Insert_forest h hw he hk hkn m hpm l A c B hl.now hBw hs _ _ hfo h0).mono ?_
     rintro er w' ⟨rfl, hb⟩
     exact ⟨rfl, same_tp h hi hb _ _⟩
  ·rw [if_pos hk]
   refine (Insert_bad h hw he hk pl _).mono ?_
   rintro er w' ⟨rfl, rfl⟩
   exact ⟨rfl, same_tp h hi (Below.refl _ _) _ _⟩
theorem iter_of {g : Int → Option Ent} {root : Int} {n : Nat} (hwf : ∀ id e, g id = some e → wfI id) {q p : Int} {d : NodeD} {ks : Fo} (ha : Agr g q (.cons p d ks .nil)) (hc : ks.cnt ≤ 100000) (y1 : Lay) : IterB t mb y1 g root next n p 0 (visT 0 (p, d, ks)) :=
 fun w' bt bi bl ht h1 h2 h3 => forest_iter hwf (.cons p d ks .nil) q 0 ha (by omega) (by simp [Fo.cnt]; omega) 0 p d ks rfl w' bt bi bl ht h1 h2 h3
theorem Delete_F (h : TreeAt w t mb y (f.ent 0) (rootF f) next f.cnt) (hi : InvF f next) {id : Int} (hw : wfI id) :
  Calls Tryz.prog 30 #[.pointer (some ⟨t, 0, none⟩), .int .i64 id] w (DoE t mb y f w (deleteL (f.flat 0) next id)) := by
 have hcn := hi.cnt
 cases he : f.ent 0 id with
 | none =>
  unfold deleteL
  rw [find_ent he]
  refine (Delete_no h hw he).mono ?_
  rintro er w' ⟨rfl, hb⟩
  exact ⟨rfl, rfl, same_tp h hi hb _ _⟩
 | some e =>
  obtain ⟨lv, ks, A1, B1, hst, hkids, _, hlv, _, hLev, _⟩ := hi.stand he
  unfold deleteL
  rw [hst.find]
  show Calls _ _ _ _ (DoE t mb y f w (if A1.length = 0 then _ else _))
  by_cases hr : id = rootF f
  ·rw [if_pos (hst.first.2 hr)]
   refine (Delete_root h hw he hr).mono ?_
   rintro er w' ⟨rfl, hb⟩
   exact ⟨rfl, rfl, same_tp h hi hb _ _⟩
  ·rw [if_neg (fun h' => hr (hst.first.1 h'))]
   rcases hi.rootOf he with ⟨hr', _⟩ | ⟨_, hp0, hpm, pe, hpe, hmem, hnd⟩
   ·exact absurd hr' hr
   obtain ⟨k, k1, k2, k3⟩ := idx_of pe.kids id hmem
   obtain ⟨hi', hroot⟩ := delete_step hi hst hr
   have hag := agr_cut hi hst he (some { pe with kids := pe.kids.eraseIdx k })
   have hks := (Fo.sub_ent f id 0 0 lv e.d ks hi.nd hst.sub)
   have hwf1 : ∀ id' e', fset (f.ent 0) e.par (some { pe with kids := pe.kids.eraseIdx k }) id' = some e' → wfI id' := fun id' e' he' => by
    unfold fset at he'
    split at he'
    ·rename_i h'; rw [h']; exact hi.wf _ _ hpe
    ·exact hi.wf _ _ he'
   refine (Delete_yes h hi.wf he hr hpe k k1 k2 (by have := hi.kidsN _ _ hpe; omega) _ rfl (visT 0 (id, e.d, ks)) (by rw [visT_len]; have := hks.2.2.2.2.2.1; omega) (fun y1 => iter_of hwf1 hag (by have := hks.2.2.2.2.2.1; omega) y1) (fun x hx => ?_) (by rw [visT_ids]; exact List.nodup_cons.2 ⟨hks.2.2.2.1, hks.2.2.1⟩)).mono ?_
   ·have hx' : x.1 ∈ id :: ks.ids := by rw [← visT_ids id e.d ks 0]; exact List.mem_map_of_mem hx
    have hxf : x.1 ∈ f.ids := by
     rcases List.mem_cons.1 hx' with h1 | h1
     ·rw [h1]; exact hst.mem
     ·exact hks.2.2.2.2.1 _ h1
    obtain ⟨ex, hex⟩ := Fo.ent_some f 0 x.1 hxf
    unfold fset
    by_cases hxp : x.1 = e.par
    ·exact ⟨_, by rw [if_pos hxp]⟩
    ·exact ⟨ex, by rw [if_neg hxp, hex]⟩
   ·rintro er w' ⟨rfl, htp⟩
    rw [visT_ids, delete_rem hi hst he hpe k3, visT_len] at htp
    have hc := cnt_del hst
    rw [show f.cnt - (1 + ks.cnt) = (f.del id).cnt by omega, ← hroot] at htp
    exact ⟨rfl, rfl, f.del id, hst.without, hi', htp⟩
end
end
section
open Go.RowKit Go.Shelf
theorem findL_some : ∀ (L : List RowD) (p : Int) (i : Nat), findL L p = some i → i < L.length ∧ p ∈ L.map (·.id)
 | [], _, _, h => by cases h
 | r :: L, p, i, h => by
  rw [findL] at h
  by_cases e : r.id = p
  ·rw [if_pos e] at h
   injection h with h
   subst h
   exact ⟨by simp, by simp [e]⟩
  ·rw [if_neg e] at h
   cases hf : findL L p with
   | none => rw [hf] at h; cases h
   | some j =>
    rw [hf] at h
    have h' : j + 1 = i := by simpa using h
    obtain ⟨h1, h2⟩ := findL_some L p j hf
    exact ⟨by simp; omega, by simp only [List.map_cons, List.mem_cons]; exact .inr h2⟩
theorem findL_none : ∀ (L : List RowD) (p : Int), findL L p = none → p ∉ L.map (·.id)
 | [], _, _ => by simp
 | r :: L, p, h => by
  rw [findL] at h
  by_cases e : r.id = p
  ·rw [if_pos e] at h; cases h
  ·rw [if_neg e] at h
   have := findL_none L p (by
    cases hf : findL L p with
    | none => rfl
    | some j => rw [hf] at h; cases h)
   simp only [List.map_cons, List.mem_cons, not_or]
   exact ⟨fun h' => e h'.symm, this⟩
theorem findL_app : ∀ (X Y : List RowD) (p : Int), findL (X ++ Y) p = match findL X p with
  | some i => some i
  | none => (findL Y p).map (· + X.length)
 | [], Y, p => by simp [findL]
 | r :: X, Y, p => by
  rw [List.cons_append, findL, findL]
  by_cases e : r.id = p
  ·rw [if_pos e, if_pos e]
  ·rw [if_neg e, if_neg e, findL_app X Y p]
   cases findL X p with
   | some i => rfl
   | none =>
    cases findL Y p with
    | none => rfl
    | some j => simp; omega
section
variable {f : Fo} {p lv to lt : Int} {d dt : NodeD} {ks kt : Fo} {A B A2 B2 : List RowD}
theorem find_range (hn : f.ids.Nodup) (hs : Stand f p lv d ks A B) (ht : Stand f to lt dt kt A2 B2) : (A.length ≤ A2.length ∧ A2.length < A.length + 1 + ks.cnt) ↔ (to = p ∨ to ∈ ks.ids) := by
 have hf := ht.find
 rw [hs.flat, findL_app] at hf
 have hids := ids_at hs
 rw [hids] at hn
 simp only [List.nodup_append, List.nodup_cons, List.mem_append, List.mem_cons, not_or] at hn
 obtain ⟨n1, ⟨⟨n2, n3⟩, n4, n5, n6⟩, n7⟩ := hn
 cases hA : findL A to with
 | some i =>
  rw [hA] at hf
  injection hf with hf
  obtain ⟨q1, q2⟩ := findL_some A to i hA
  refine ⟨fun h => by omega, fun h => ?_⟩
  rcases h with h | h
  ·exact absurd rfl (n7 to q2 to (.inl h))
  ·exact absurd rfl (n7 to q2 to (.inr (.inl h)))
 | none =>
  rw [hA] at hf
  simp only [findL] at hf
  by_cases e : p = to
  ·rw [if_pos e] at hf
   simp at hf
   exact ⟨fun _ => .inl e.symm, fun _ => by omega⟩
  ·rw [if_neg e, findL_app] at hf
   cases hk : findL (ks.flat (lv + 1)) to with
   | some i =>
    rw [hk] at hf
    simp at hf
    obtain ⟨q1, q2⟩ := findL_some _ to i hk
    rw [Fo.flat_len] at q1
    rw [Fo.flat_ids] at q2
    exact ⟨fun _ => .inr q2, fun _ => by omega⟩
   | none =>
    rw [hk] at hf
    have hk' := findL_none _ to hk
    rw [Fo.flat_ids] at hk'
    refine ⟨fun h => ?_, fun h => ?_⟩
    ·exfalso
     cases hB : findL B to with
     | none => rw [hB] at hf; simp at hf
     | some j =>
      rw [hB] at hf
      simp [Fo.flat_len] at hf
      omega
    ·rcases h with h | h
     ·exact absurd h.symm e
     ·exact absurd h hk'
theorem part_eq (hs : Stand f p lv d ks A B) (lt : Int) : partL (((f.flat 0).drop A.length).take (endL (f.flat 0) A.length - A.length)) (lvlL (f.flat 0) A.length - lt - 1) = (Fo.cons p d ks .nil).flat (lt + 1) := by
 rw [hs.part, hs.lvl]
 have := Fo.flat_shift (.cons p d ks .nil) lv (lv - lt - 1)
 rw [show lv - (lv - lt - 1) = lt + 1 by omega] at this
 rw [← this]
 unfold partL
 simp [Fo.flat]
theorem deep_iff (p : Int) (d : NodeD) (ks : Fo) (c : Int) : 40 ≤ c + maxLv (visT 0 (p, d, ks)) ↔ ∃ z ∈ (Fo.cons p d ks .nil).flat c, 40 ≤ z.x.level := by
 rw [visT_flat]
 have hge : ∀ x ∈ ((Fo.cons p d ks .nil).flat 0).map (fun r => (r.id, r.x.level)), 0 ≤ x.2 := fun x hx => by
  obtain ⟨r, hr, rfl⟩ := List.mem_map.1 hx
  exact Fo.flat_ge _ 0 r hr
 rw [maxLv_ge _ (by simp [Fo.flat]) hge]
 have hsh := Fo.flat_shift (.cons p d ks .nil) 0 (0 - c)
 rw [show (0 : Int) - (0 - c) = c by omega] at hsh
 rw [← hsh]
 constructor
 ·rintro ⟨x, hx, h⟩
  obtain ⟨r, hr, rfl⟩ := List.mem_map.1 hx
  exact ⟨_, List.mem_map.2 ⟨r, hr, rfl⟩, by show 40 ≤ r.x.level - (0 - c); simp at h; omega⟩
 ·rintro ⟨z, hz, h⟩
  obtain ⟨r, hr, rfl⟩ := List.mem_map.1 hz
  exact ⟨_, List.mem_map.2 ⟨r, hr, rfl⟩, by have h' : 40 ≤ r.x.level - (0 - c) := h; simp; omega⟩
end
section
variable {w : World} {t mb : Nat} {y : Lay} {f : Fo} {next : Int}
theorem Move_F (h : TreeAt w t mb y (f.ent 0) (rootF f) next f.cnt) (hi : InvF f next) {id to : Int} (hw : wfI id) (hwt : wfI to) (pl : Int) :
  Calls Tryz.prog 31 #[.pointer (some ⟨t, 0, none⟩), .int .i64 id, .int .i64 to, .int .i64 pl] w (DoE t mb y f w (moveL (f.flat 0) next id to pl)) := by
 have hcn := hi.cnt
 by_cases hnone : f.ent 0 id = none ∨ f.ent 0 to = none
 ·have hm : moveL (f.flat 0) next id to pl = (f.flat 0, next, 0, 60) := by
   unfold moveL
   rcases hnone with h | h
   ·rw [find_ent h]
   ·rw [find_ent h]
    cases findL (f.flat 0) id <;> rfl
  rw [hm]
  refine (Move_no h pl hw hwt hnone).mono ?_
  rintro er w' ⟨rfl, hb⟩
  exact ⟨rfl, rfl, same_tp h hi hb _ _⟩
 ·obtain ⟨e, he⟩ : ∃ e, f.ent 0 id = some e := by
   cases he : f.ent 0 id with
   | none => exact absurd (.inl he) hnone
   | some e => exact ⟨e, rfl⟩
  obtain ⟨pt, hpt⟩ : ∃ e, f.ent 0 to = some e := by
   cases he : f.ent 0 to with
   | none => exact absurd (.inr he) hnone
   | some e => exact ⟨e, rfl⟩
  obtain ⟨lv, ks, A1, B1, hs, hkids, _, hlv, _, hLev, _⟩ := hi.stand he
  obtain ⟨lt, kt, A2, B2, ht, hkt, _, hlt, _, hLevt, _⟩ := hi.stand hpt
  have hks := Fo.sub_ent f id 0 0 lv e.d ks hi.nd hs.sub
  have hkc := hks.2.2.2.2.2.1
  have hlt0 : (lt.toNat : Int) = lt := Int.toNat_of_nonneg ht.lv0
  have hrange := find_range hi.nd hs ht
  have hxids : ∀ x, x ∈ (visT 0 (id, e.d, ks)).map (·.1) ↔ (x = id ∨ x ∈ ks.ids) := fun x => by rw [visT_ids]; simp
  have hwf := hi.wf
  obtain ⟨ans, hans⟩ : ∃ a, moveL (f.flat 0) next id to pl = a := ⟨_, rfl⟩
  have hm := hans
  unfold moveL at hm
  rw [hs.find, ht.find] at hm
  simp only [ht.get] at hm
  rw [show (pt.d.at lt).level = lt from rfl, part_eq hs lt, hs.end] at hm
  rw [hans]
  have hag : Agr (f.ent 0) e.par (.cons id e.d ks .nil) := by
   have h1 := agr_cut hi hs he none
   obtain ⟨o1, o2⟩ := par_out f id 0 0 lv e.d ks e hi.nd hi.q0 hs.sub he
   refine ⟨?_, Fo.agr_of ks id _ hks.2.2.1 hks.2.1, trivial⟩
   rw [he, ← hkids]
  have hnl : (to ∉ (visT 0 (id, e.d, ks)).map (·.1)) → to ≠ id ∧ to ∉ ks.ids := fun hn => by
   rw [hxids] at hn
   exact ⟨fun h => hn (.inl h), fun h => hn (.inr h)⟩
  -- what stands when the node is taken out
  have hcutK : ∀ (k1 : Fo) (A3 B3 : List RowD), id ≠ rootF f → Stand (f.del id) to lt pt.d k1 A3 B3 → to ≠ id → to ∉ ks.ids → (k1.roots.length : Int) = (pt.kids.length : Int) - (if e.par = to then 1 else 0) ∧ k1.roots = (if to = e.par then pt.kids.erase id else pt.kids) := by
   intro k1 A3 B3 hr h3 h4 h5
   obtain ⟨hi', _⟩ := delete_step hi hs hr
   obtain ⟨q1, he1, _⟩ := h3.ent hi'.nd
   rw [Fo.ent_del f id 0 0 lv e.d ks e hi.nd hi.q0 hs.sub he to, if_neg (by rintro (h | h); exact h4 h; exact h5 h), hpt] at he1
   have hk1 : k1.roots = if to = e.par then pt.kids.erase id else pt.kids := by
    by_cases htp : to = e.par
    ·rw [if_pos htp] at he1 ⊢
     injection he1 with he1
     injection he1 with _ _ he1
     exact he1.symm
    ·rw [if_neg htp] at he1 ⊢
     injection he1 with he1
     rw [he1]
   refine ⟨?_, hk1⟩
   rw [hk1]
   by_cases htp : to = e.par
   ·rw [if_pos htp, if_pos htp.symm]
    rcases hi.rootOf he with ⟨hr', _⟩ | ⟨_, _, _, pe, hpe, hmem, _⟩
    ·exact absurd hr' hr
    ·rw [← htp, hpt] at hpe
     injection hpe with hpe
     rw [← hpe] at hmem
     have := List.length_erase_of_mem hmem
     have hpos : 0 < pt.kids.length := List.length_pos_of_mem hmem
     omega
   ·rw [if_neg htp, if_neg (fun h => htp h.symm)]; omega
  refine Move_some h pl hw hwt he hpt _ (fun hr w' hb => ?_) (fun hr hk w' hb => ?_) (visT 0 (id, e.d, ks)) (fun hr hk hxs w' hb => ?_) (by rw [visT_len]; omega) (fun x hx => ?_)
   (iter_of hwf hag (by omega) y) hwf lt.toNat (by omega) hLevt (by have := hi.kidsN _ _ hpt; omega) _ rfl ?_ ?_ ?_
  ·have hm' : ans = (f.flat 0, next, 0, 62) := by rw [← hm, if_pos (hs.first.2 hr)]
   rw [hm']
   exact ⟨rfl, rfl, same_tp h hi hb _ _⟩
  ·have hm' : ans = (f.flat 0, next, 0, 68) := by rw [← hm, if_neg (fun h' => hr (hs.first.1 h'))]; exact if_pos hk
   rw [hm']
   exact ⟨rfl, rfl, same_tp h hi hb _ _⟩
  ·have hm' : ans = (f.flat 0, next, 0, 61) := by
    rw [← hm, if_neg (fun h' => hr (hs.first.1 h')), if_neg (fun h' => h' hk), if_pos (hrange.2 ((hxids to).1 hxs))]
   rw [hm']
   exact ⟨rfl, rfl, same_tp h hi hb _ _⟩
  ·rw [visT_flat] at hx
   obtain ⟨r, hr, rfl⟩ := List.mem_map.1 hx
   refine ⟨Fo.flat_ge _ 0 r hr, ?_⟩
   have hsh := Fo.flat_shift (.cons id e.d ks .nil) lv lv
   rw [Int.sub_self] at hsh
   rw [← hsh] at hr
   obtain ⟨z, hz, rfl⟩ := List.mem_map.1 hr
   have hzf : z ∈ f.flat 0 := by
    rw [hs.flat]
    simp only [Fo.flat, List.append_nil, List.mem_cons, List.mem_append] at hz ⊢
    rcases hz with h | h
    ·exact .inr (.inl h)
    ·exact .inr (.inr (.inl h))
   have := (hi.ok z hzf).1
   have := hs.lv0
   show z.x.level - lv ≤ 1000000
   omega
  all_goals
   intro hr hk hnx
   obtain ⟨hnt, hnk⟩ := hnl hnx
   obtain ⟨hi', hroot⟩ := delete_step hi hs hr
   obtain ⟨k1, A3, B3, hs1, hstep⟩ := move_step hi hs ht hr hnt hnk
   obtain ⟨hlen, hroots⟩ := hcutK k1 A3 B3 hr hs1 hnt hnk
   rw [if_neg (fun h' => hr (hs.first.1 h')), if_neg (fun h' => h' hk), if_neg (fun h' => by rcases hrange.1 h' with h | h; exact hnt h; exact hnk h), hs.without] at hm
   simp only [hs1.find, hs1.kids_len] at hm
   rw [hlen] at hm
  ·intro hpl w' hb
   have hm' : ans = (f.flat 0, next, 0, 69) := by rw [← hm, if_pos hpl]
   rw [hm']
   exact ⟨rfl, rfl, same_tp h hi hb _ _⟩
  ·intro hp0 hp1 hdeep w' hb
   have hm' : ans = (f.flat 0, next, 0, 65) := by
    rw [← hm, if_neg (by omega), if_pos]
    rw [List.any_eq_true]
    obtain ⟨z, hz, hz'⟩ := (deep_iff id e.d ks (lt + 1)).1 (by omega)
    exact ⟨z, hz, decide_eq_true hz'⟩
   rw [hm']
   exact ⟨rfl, rfl, same_tp h hi hb _ _⟩
  ·intro hp0 hp1 hdeep
   have hnd : ∀ z ∈ (Fo.cons id e.d ks .nil).flat (lt + 1), z.x.level < 40 := fun z hz => by
    have := (deep_iff id e.d ks (lt + 1)).2
    by_cases hz' : 40 ≤ z.x.level
    ·have := this ⟨z, hz, hz'⟩; omega
    ·omega
   have hpk : pl.toNat ≤ k1.roots.length := by omega
   obtain ⟨s1, s2, s3, s4, s5⟩ := hstep pl.toNat hpk hk hnd
   have hm' : ans = (((f.del id).upd to (Fo.insAt pl.toNat (.cons id e.d ks .nil))).flat 0, next, 0, 0) := by
    rw [← hm, if_neg (by omega), if_neg]
    ·rw [s4]
    ·rw [List.any_eq_true]
     rintro ⟨z, hz, hz'⟩
     have := hnd z hz
     have := of_decide_eq_true hz'
     omega
   rcases hi.rootOf he with ⟨hr', _⟩ | ⟨_, hp0', hpm, pe, hpe, hmem, hndk⟩
   ·exact absurd hr' hr
   obtain ⟨k, c1, c2, c3⟩ := idx_of pe.kids id hmem
   obtain ⟨o1, o2⟩ := par_out f id 0 0 lv e.d ks e hi.nd hi.q0 hs.sub he
   have hdel := delete_ent hi hs he hpe c3
   obtain ⟨qd, hed, _⟩ := hs1.ent hi'.nd
   have hg1 : fset (f.ent 0) e.par (some { pe with kids := pe.kids.eraseIdx k }) to = some ⟨qd, pt.d, k1.roots⟩ := by rw [← hdel to hnt hnk, hed]
   refine ⟨pe, k, _, ⟨qd, pt.d, k1.roots⟩, e, _, hpe, c1, c2, by have := hi.kidsN _ _ hpe; omega, rfl, hg1, hpk, by have h9 : k1.roots.length ≤ 1000 := hi'.kidsN _ _ hed; show k1.roots.length ≤ 1000000; omega, rfl, ?_, fun w' htp => ?_⟩
   ·rw [fset_other _ _ (fun h => hnt h.symm), fset_other _ _ (fun h => o1 h.symm), he]
   ·rw [hm']
    refine ⟨rfl, rfl, _, rfl, s1, ?_⟩
    have hG : fset (fset (fset (f.ent 0) e.par (some { pe with kids := pe.kids.eraseIdx k })) to (some { (⟨qd, pt.d, k1.roots⟩ : Ent) with kids := k1.roots.take pl.toNat ++ id :: k1.roots.drop pl.toNat })) id (some { e with par := to }) = ((f.del id).upd to (Fo.insAt pl.toNat (.cons id e.d ks .nil))).ent 0 := by
     rw [s5]
     funext x
     unfold addG
     by_cases hx : x = id
     ·subst hx
      rw [fset_same, Fo.ent, if_pos rfl, ← hkids]
     ·rw [fset_other _ _ hx, Fo.ent, if_neg hx]
      by_cases hxk : x ∈ ks.ids
      ·obtain ⟨ex, hex⟩ := Fo.ent_some ks id x hxk
       have hxt : x ≠ to := fun h => hnk (h ▸ hxk)
       have hxe : x ≠ e.par := fun h => o2 (h ▸ hxk)
       rw [fset_other _ _ hxt, fset_other _ _ hxe, hks.2.1 x hxk, hex]
      ·rw [Fo.ent_not ks id x hxk]
       simp only [Fo.ent]
       by_cases hxt : x = to
       ·subst hxt
        rw [fset_same, if_pos rfl, hed]
        simp [Fo.roots]
       ·rw [fset_other _ _ hxt, if_neg hxt, hdel x hx hxk]
    rw [← hG, s2, s3]
    exact htp
end
end
end Go.Proofs.YtmkgajdgnmolkaaGreat
