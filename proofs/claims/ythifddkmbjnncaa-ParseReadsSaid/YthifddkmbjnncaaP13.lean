/-
  Texts of this claim, joined (by a program of the claim's author): RPAdd1, RPParse.
-/
import Derived.Test.YthifddkmbjnncaaP12
/-
  The document's reader of documents: an opening tag, a text.
-/
namespace Go.Proofs.Ythifddkmbjnncaa
open Go.RowKit




set_option maxRecDepth 100000 in
set_option maxHeartbeats 2000000 in
theorem rpadd4_any (B : Nat) (items : List ItemD) (o : List (List UInt8)) (w : World) (S : List Slot) (IA OA : Option Addr) (Ic Oc : Nat) (h : RInv w B S IA Ic OA Oc items o) (hBw : B ≤ w.heap.size) (t : TokD) (at_ : Int) (A : Option Addr) (c : Nat) (hE : addE items o 4 = 0) :
    Calls Try.prog 49 #[.slice IA S.length Ic, .slice OA o.length Oc, .agg #[.int .i64 4, .int .i64 at_, .string ⟨t.name.toArray⟩, .string ⟨t.text.toArray⟩, .slice A t.attrs.length c]] w (ROneP w B (.inr (items ++ [⟨o.length, 2, [], t.text, []⟩], o))) := by
  have hlen : S.length = items.length := by rw [← h.map, List.length_map]
  have HI := Lib.hid h
  obtain ⟨h1, h2, h3⟩ := addE_zero hE
  clear h hE
  have h40' : (o.length : Int) < 40 := by omega
  obtain ⟨W1, hW1⟩ : ∃ W1, Hid (W1 = w.alloc (.cells #[.int .i64 4, .int .i64 at_, .string ⟨t.name.toArray⟩, .string ⟨t.text.toArray⟩, .slice A t.attrs.length c] 33)) := ⟨_, rfl⟩
  have hbW1 : Below w.heap.size w W1 := by rw [hW1.out]; exact (Below.refl _ w).alloc (Nat.le_refl _) _
  have hz1 : w.heap.size < W1.heap.size := by rw [hW1.out]; simp
  have y0 : W1.cell? ⟨w.heap.size, 0, none⟩ = some (.int .i64 4) := by rw [hW1.out, World.cell?_alloc_at _ _ _ _ (by simp)]; rfl
  have y2 : W1.cell? ⟨w.heap.size, 2, none⟩ = some (.string ⟨t.name.toArray⟩) := by rw [hW1.out, World.cell?_alloc_at _ _ _ _ (by simp)]; rfl
  obtain ⟨x, hx⟩ : ∃ x : ItemD, Hid (x = ⟨o.length, 2, [], t.text, []⟩) := ⟨_, rfl⟩
  obtain ⟨W2, hW2⟩ : ∃ W2, Hid (W2 = W1.alloc (.cells #[.int .i64 o.length, .int .i64 2, .string ⟨#[]⟩, .string ⟨t.text.toArray⟩, .slice none 0 0] 50)) := ⟨_, rfl⟩
  have hW2' : Hid (W2 = (w.alloc (.cells #[.int .i64 4, .int .i64 at_, .string ⟨t.name.toArray⟩, .string ⟨t.text.toArray⟩, .slice A t.attrs.length c] 33)).alloc (.cells #[.int .i64 o.length, .int .i64 2, .string ⟨#[]⟩, .string ⟨t.text.toArray⟩, .slice none 0 0] 50)) := by show _ = _; rw [hW2.out, hW1.out]
  have hb12 : Below W1.heap.size W1 W2 := by rw [hW2.out]; exact (Below.refl _ W1).alloc (Nat.le_refl _) _
  have hbW2 : Below w.heap.size w W2 := hbW1.trans (hb12.mono hbW1.size)
  have x0 : W2.cell? ⟨w.heap.size, 0, none⟩ = some (.int .i64 4) := (hb12.cell (p := ⟨w.heap.size, 0, none⟩) hz1).trans y0
  have x2 : W2.cell? ⟨w.heap.size, 2, none⟩ = some (.string ⟨t.name.toArray⟩) := (hb12.cell (p := ⟨w.heap.size, 2, none⟩) hz1).trans y2
  have hz2 : w.heap.size < W2.heap.size := Nat.lt_of_lt_of_le hz1 hb12.size
  have HI2 := Lib.hid (RInv.below HI.out hbW2)
  have HX2 : Hid (AttrsOwn W2 B none 0 x.attrs) := by show AttrsOwn _ _ _ _ _; rw [hx.out]; exact World.ownsRow_nil _ _ _ _
  have hzB : B ≤ W2.heap.size := Nat.le_trans hBw hbW2.size
  have hfar : ∀ g, (Value.slice IA S.length Ic).ownBlock = some g → g = w.heap.size → False := fun g hg e => by have := (own_type HI.out.own g hg).2.1; omega
  clear y0 y2
  have h0 : o ≠ [] := fun e => (h3 e).1 rfl
  have hpos : 0 < o.length := List.length_pos_iff.2 h0
  have t0 : ((o.length : Int) == 0) = false := by simp; omega
  have hS : (S.length : Int) < 1000 := by omega
  have hSl : S.length < 1000 := by omega
  clear h0 h3 hlen
  have HV : Hid ((Sum.inr (items ++ [(⟨o.length, 2, [], t.text, []⟩ : ItemD)], o) : Int ⊕ (List ItemD × List (List UInt8))) = .inr (items ++ [x], o)) := by show _ = _; rw [hx.out]
  rw [HV.out]
  go_enter Try.func49, Try.ntmps49
  go_wp2_with (at_builtin; rw [← hW2'.out]; go_loud (refine appendS rfl (.tmp 72) (.tmp 74) 45 rfl B 50 (.agg #[.int .i64 0, .int .i64 0, .string ByteArray.empty, .string ByteArray.empty, .slice none 0 0]) 5 72 Try.underlying45 infoItem rfl (by decide) _ S.length _ (cellsI (⟨o.length, 2, [], t.text, []⟩, none, 0)) rfl HI2.out.own hzB _ rfl (by rw [hW2'.out]; simp) (cellsI_length _) (cellsI_cell _) (by omega) (by decide) ?_))
  intro a4 c4 w4 hown4 hb4 hz4 hg4
  have hkeep4 : ∀ j, w4.cell? ⟨w.heap.size, j, none⟩ = W2.cell? ⟨w.heap.size, j, none⟩ := fun j =>
    (World.grownBy.cell_far hg4 ⟨w.heap.size, j, none⟩ (by show w.heap.size < _; simp; omega) (fun e => hfar _ e.symm rfl)).trans (World.cell?_alloc_lt _ _ _ (by show w.heap.size < _; exact hz2))
  have HI4 : Hid (RInv w4 B (S ++ [(x, none, 0)]) a4 c4 OA Oc (items ++ [x]) o) := by
    have hgrow : ∀ {e : TypeId} {size : Nat} {v : Value} {n : Nat} {xs : List Value}, W2.ownsRow B e size v n xs → e ≠ 50 → w4.ownsRow B e size v n xs := fun hr he =>
      own_grown (World.ownsRow.alloc hr _) (World.ownsRow.alloc HI2.out.own _) he hg4
    refine ⟨?_, fun s hs => ?_, hgrow HI2.out.names (by decide), by rw [List.map_append, HI2.out.map]; rfl⟩
    · unfold ItemsOwn
      rw [List.length_append, List.flatMap_append, hx.out]
      simpa using hown4
    · rcases List.mem_append.1 hs with hm | hm
      · exact hgrow (HI2.out.attrs s hm) (by decide)
      · simp at hm; subst hm
        exact hgrow HX2.out (by decide)
  have z0 : w4.cell? ⟨w.heap.size, 0, none⟩ = some (.int .i64 4) := (hkeep4 0).trans x0
  have z2 : w4.cell? ⟨w.heap.size, 2, none⟩ = some (.string ⟨t.name.toArray⟩) := (hkeep4 2).trans x2
  have hbw4 : Below B w w4 := (hbW2.mono hBw).trans hb4
  clear hown4 hg4 hkeep4 x0 x2
  go_wp2_with fail
  go_ret3
  exact ⟨hbw4, S ++ [(x, none, 0)], a4, c4, OA, Oc, by simp, HI4.out⟩

theorem names_cells {w : World} {B : Nat} {ad : Addr} {n c : Nat} {xs : List Value} (h : w.ownsRow B 9 1 (.slice (some ad) n c) n xs) : ∃ g, ad = ⟨g, 0, none⟩ ∧ g < w.heap.size ∧ ∀ j u, xs[j]? = some u → w.cell? ⟨g, j, none⟩ = some u := by
  rcases h.2 with ⟨h1, _⟩ | ⟨g, cap, cur, h1, h2, h3, h4, h5, h6, h7⟩
  · injection h1 with h1; cases h1
  · injection h1 with h1
    injection h1 with h1
    refine ⟨g, h1, (Array.getElem?_eq_some_iff.1 h3).1, fun j u hu => ?_⟩
    have hj : j < n * 1 := by
      have := (List.getElem?_eq_some_iff.1 hu).1
      rw [← h7, List.length_take] at this
      omega
    rw [← h7, List.getElem?_take_of_lt hj, Array.getElem?_toList] at hu
    rw [cell_of_row h3]; exact hu

theorem wpList_append_nil {P : Program} {w : World} {ops : Array Oper} {rest : List Oper} {o : Oper} {a : Act} {Q : Exit → Act → World → Prop} (hgd : o.guard = none) (s x : Operand) (t : TypeId)
    (ho : o.op = .call { callee := .builtin .append, args := #[s, x], argTypes := #[t, t] }) (b0 : Addr) (hs : a.eval s = .slice (some b0) 0 0) (hx : a.eval x = .slice none 0 0) {e : TypeId} {i : TypeInfo} (ht : P.underlying t = some (.slice e)) (hi : P.info? e = some i)
    (h : wpList P ops Q rest (a.put o.dst (.slice (some b0) 0 0)) w) : wpList P ops Q (o :: rest) a w := by
  refine wpList_plain hgd fun K hK => ?_
  have hrun : (Builtin.append_ #[t, t] o.type #[.slice (some b0) 0 0, .slice none 0 0]).run P w = .ok (.slice (some b0) 0 0) w := by
    simp [Builtin.append_, run_underlying ht, sizeOf, typeInfo, hi, Builtin.lenOf, Builtin.firstCells, loadCells, loadCellsFrom, storeCells]
  unfold Oper.wp
  simp [execOp, ho, resolve, invoke, builtin, hs, hx, hrun, Result.andThen]
  exact hK _ _ h



set_option maxRecDepth 100000 in
set_option maxHeartbeats 2000000 in
theorem rpadd1_any (B : Nat) (items : List ItemD) (o : List (List UInt8)) (w : World) (S : List Slot) (IA OA : Option Addr) (Ic Oc : Nat) (h : RInv w B S IA Ic OA Oc items o) (hBw : B ≤ w.heap.size) (t : TokD) (at_ : Int) (A : Option Addr) (c : Nat) (hA : AttrsOwn w B A c t.attrs) (hE : addE items o 1 = 0) :
    Calls Try.prog 49 #[.slice IA S.length Ic, .slice OA o.length Oc, .agg #[.int .i64 1, .int .i64 at_, .string ⟨t.name.toArray⟩, .string ⟨t.text.toArray⟩, .slice A t.attrs.length c]] w (ROneP w B (.inr (items ++ [⟨o.length, 1, t.name, [], t.attrs⟩], o ++ [t.name]))) := by
  have hlen : S.length = items.length := by rw [← h.map, List.length_map]
  have HI := Lib.hid h
  have HA := Lib.hid hA
  obtain ⟨h1, h2, h3⟩ := addE_zero hE
  clear h hA hE
  have h40' : (o.length : Int) < 40 := by omega
  have hSl : S.length < 1000 := by omega
  have hol : o.length < 1000 := by omega
  cases OA with
  | none =>
    have h0 : o = [] ∧ Oc = 0 := by
      rcases HI.out.names.2 with ⟨h1, h2⟩ | ⟨g, cap, cur, h1, _⟩
      · injection h1 with _ _ h1
        exact ⟨List.eq_nil_of_length_eq_zero h2, h1⟩
      · injection h1 with h1; cases h1
    obtain ⟨h0, rfl⟩ := h0
    have h0e := Lib.hid h0
    have hi0 := (h3 h0).2
    have hil : items.length = 0 := by rw [hi0]; rfl
    have hS2 : ¬ (0 < S.length) := by omega
    have hS1 : decide ((0 : Int) < (S.length : Int)) = false := decide_eq_false (by omega)
    have e0 : Value.slice none o.length 0 = .slice none 0 0 := by rw [h0]; rfl
    rw [e0]
    clear hi0 h3 hlen hil h0 e0 hol h40' h1 h2
    obtain ⟨W1, hW1⟩ : ∃ W1, Hid (W1 = w.alloc (.cells #[.int .i64 1, .int .i64 at_, .string ⟨t.name.toArray⟩, .string ⟨t.text.toArray⟩, .slice A t.attrs.length c] 33)) := ⟨_, rfl⟩
    have hbW1 : Below w.heap.size w W1 := by rw [hW1.out]; exact (Below.refl _ w).alloc (Nat.le_refl _) _
    have hz1 : w.heap.size < W1.heap.size := by rw [hW1.out]; simp
    have y0 : W1.cell? ⟨w.heap.size, 0, none⟩ = some (.int .i64 1) := by rw [hW1.out, World.cell?_alloc_at _ _ _ _ (by simp)]; rfl
    have y2 : W1.cell? ⟨w.heap.size, 2, none⟩ = some (.string ⟨t.name.toArray⟩) := by rw [hW1.out, World.cell?_alloc_at _ _ _ _ (by simp)]; rfl
    obtain ⟨x, hx⟩ : ∃ x : ItemD, Hid (x = ⟨0, 1, t.name, [], t.attrs⟩) := ⟨_, rfl⟩
    obtain ⟨W2, hW2⟩ : ∃ W2, Hid (W2 = W1.alloc (.cells #[.int .i64 0, .int .i64 1, .string ⟨t.name.toArray⟩, .string ⟨#[]⟩, .slice A t.attrs.length c] 50)) := ⟨_, rfl⟩
    have hW2' : Hid (W2 = (w.alloc (.cells #[.int .i64 1, .int .i64 at_, .string ⟨t.name.toArray⟩, .string ⟨t.text.toArray⟩, .slice A t.attrs.length c] 33)).alloc (.cells #[.int .i64 0, .int .i64 1, .string ⟨t.name.toArray⟩, .string ⟨#[]⟩, .slice A t.attrs.length c] 50)) := by show _ = _; rw [hW2.out, hW1.out]
    have hb12 : Below W1.heap.size W1 W2 := by rw [hW2.out]; exact (Below.refl _ W1).alloc (Nat.le_refl _) _
    have hbW2 : Below w.heap.size w W2 := hbW1.trans (hb12.mono hbW1.size)
    have x0 : W2.cell? ⟨w.heap.size, 0, none⟩ = some (.int .i64 1) := (hb12.cell (p := ⟨w.heap.size, 0, none⟩) hz1).trans y0
    have x2 : W2.cell? ⟨w.heap.size, 2, none⟩ = some (.string ⟨t.name.toArray⟩) := (hb12.cell (p := ⟨w.heap.size, 2, none⟩) hz1).trans y2
    have hz2 : w.heap.size < W2.heap.size := Nat.lt_of_lt_of_le hz1 hb12.size
    have HI2 := Lib.hid (RInv.below HI.out hbW2)
    have HX2 : Hid (AttrsOwn W2 B A c x.attrs) := by show AttrsOwn _ _ _ _ _; rw [hx.out]; exact own_keep HA.out hbW2
    have hzB : B ≤ W2.heap.size := Nat.le_trans hBw hbW2.size
    have hfar : ∀ g, (Value.slice IA S.length Ic).ownBlock = some g → g = w.heap.size → False := fun g hg e => by have := (own_type HI.out.own g hg).2.1; omega
    clear y0 y2
    have HV : Hid ((Sum.inr (items ++ [(⟨o.length, 1, t.name, [], t.attrs⟩ : ItemD)], o ++ [t.name]) : Int ⊕ (List ItemD × List (List UInt8))) = .inr (items ++ [x], [t.name])) := by show _ = _; rw [hx.out, h0e.out]; rfl
    rw [HV.out]
    go_enter Try.func49, Try.ntmps49
    go_wp2_with (at_builtin; rw [← hW2'.out]; go_loud (refine appendS rfl (.tmp 72) (.tmp 74) 45 rfl B 50 (.agg #[.int .i64 0, .int .i64 0, .string ByteArray.empty, .string ByteArray.empty, .slice none 0 0]) 5 72 Try.underlying45 infoItem rfl (by decide) _ S.length _ (cellsI (⟨0, 1, t.name, [], t.attrs⟩, A, c)) rfl HI2.out.own hzB _ rfl (by rw [hW2'.out]; simp) (cellsI_length _) (cellsI_cell _) (by omega) (by decide) ?_))
    intro a4 c4 w4 hown4 hb4 hz4 hg4
    have hkeep4 : ∀ j, w4.cell? ⟨w.heap.size, j, none⟩ = W2.cell? ⟨w.heap.size, j, none⟩ := fun j =>
      (World.grownBy.cell_far hg4 ⟨w.heap.size, j, none⟩ (by show w.heap.size < _; simp; omega) (fun e => hfar _ e.symm rfl)).trans (World.cell?_alloc_lt _ _ _ (by show w.heap.size < _; exact hz2))
    have HI4 : Hid (RInv w4 B (S ++ [(x, A, c)]) a4 c4 none 0 (items ++ [x]) o) := by
      have hgrow : ∀ {e : TypeId} {size : Nat} {v : Value} {n : Nat} {xs : List Value}, W2.ownsRow B e size v n xs → e ≠ 50 → w4.ownsRow B e size v n xs := fun hr he =>
        own_grown (World.ownsRow.alloc hr _) (World.ownsRow.alloc HI2.out.own _) he hg4
      refine ⟨?_, fun s hs => ?_, hgrow HI2.out.names (by decide), by rw [List.map_append, HI2.out.map]; rfl⟩
      · unfold ItemsOwn
        rw [List.length_append, List.flatMap_append, hx.out]
        simpa using hown4
      · rcases List.mem_append.1 hs with hm | hm
        · exact hgrow (HI2.out.attrs s hm) (by decide)
        · simp at hm; subst hm
          exact hgrow HX2.out (by decide)
    have z0 : w4.cell? ⟨w.heap.size, 0, none⟩ = some (.int .i64 1) := (hkeep4 0).trans x0
    have z2 : w4.cell? ⟨w.heap.size, 2, none⟩ = some (.string ⟨t.name.toArray⟩) := (hkeep4 2).trans x2
    have hbw4 : Below B w w4 := (hbW2.mono hBw).trans hb4
    clear hown4 hg4 hkeep4 x0 x2
    obtain ⟨i0, hi0, _, _, _⟩ := info_parts infoStr
    obtain ⟨w5, hw5⟩ : ∃ w5, Hid (w5 = w4.alloc (.cells #[] 9)) := ⟨_, rfl⟩
    have hown5 : w5.ownsRow w4.heap.size 9 1 (.slice (some ⟨w4.heap.size, 0, none⟩) 0 0) 0 [] := by
      rw [hw5.out]
      exact ⟨by simp, .inr ⟨w4.heap.size, 0, #[], rfl, Nat.le_refl _, heap_alloc_new w4 _, Nat.le_refl _, by decide, by simp, by simp⟩⟩
    have hb5 : Below w4.heap.size w4 w5 := by rw [hw5.out]; exact (Below.refl _ w4).alloc (Nat.le_refl _) _
    have hzz : w.heap.size < w4.heap.size := Nat.lt_trans hz2 hz4
    have u2 : w5.cell? ⟨w.heap.size, 2, none⟩ = some (.string ⟨t.name.toArray⟩) := (hb5.cell (p := ⟨w.heap.size, 2, none⟩) hzz).trans z2
    have hB4 : B ≤ w4.heap.size := Nat.le_trans hBw hbw4.size
    have HI5 := Lib.hid (HI4.out.below hb5)
    have HO5 := Lib.hid (row_base hown5 hB4)
    have hzB5 : B ≤ w5.heap.size := Nat.le_trans hB4 hb5.size
    clear hown5 hB4
    go_wp2_with (at_builtin; first | (refine wpList_append_nil rfl (.tmp 79) (.tmp 80) 69 rfl ⟨w4.heap.size, 0, none⟩ rfl rfl Try.underlying69 hi0 ?_) | (rw [← hw5.out]; refine appendS rfl (.tmp 82) (.tmp 85) 69 rfl B 9 (.string ByteArray.empty) 1 16 Try.underlying69 infoStr rfl (by decide) _ 0 _ [strV t.name] rfl HO5.out hzB5 _ rfl (by rw [hw5.out]; simp) rfl (by intro u hu; simp at hu; subst hu; rfl) (by omega) (by decide) ?_))
    intro a6 c6 w6 hown6 hb6 hz6 hg6
    go_wp2_with fail
    go_ret3
    refine ⟨hbw4.trans ((hb5.mono (Nat.le_trans hBw hbw4.size)).trans hb6), S ++ [(x, A, c)], a4, c4, a6, c6, by simp, ?_⟩
    have hgrow : ∀ {e : TypeId} {size : Nat} {v : Value} {n : Nat} {xs : List Value}, w5.ownsRow B e size v n xs → e ≠ 9 → w6.ownsRow B e size v n xs := fun hr he =>
      own_grown (World.ownsRow.alloc hr _) (World.ownsRow.alloc HO5.out _) he hg6
    exact ⟨hgrow HI5.out.own (by decide), fun s hs => hgrow (HI5.out.attrs s hs) (by decide), by simpa using hown6, HI5.out.map⟩
  | some ad =>
    by_cases h0 : o = []
    · have t0 : ((o.length : Int) == 0) = true := by rw [h0]; rfl
      have hi0 := (h3 h0).2
      have hil : items.length = 0 := by rw [hi0]; rfl
      have hS2 : ¬ (0 < S.length) := by omega
      have hS1 : decide ((0 : Int) < (S.length : Int)) = false := decide_eq_false (by omega)
      clear h0 hi0 h3 hlen hil
      obtain ⟨W1, hW1⟩ : ∃ W1, Hid (W1 = w.alloc (.cells #[.int .i64 1, .int .i64 at_, .string ⟨t.name.toArray⟩, .string ⟨t.text.toArray⟩, .slice A t.attrs.length c] 33)) := ⟨_, rfl⟩
      have hbW1 : Below w.heap.size w W1 := by rw [hW1.out]; exact (Below.refl _ w).alloc (Nat.le_refl _) _
      have hz1 : w.heap.size < W1.heap.size := by rw [hW1.out]; simp
      have y0 : W1.cell? ⟨w.heap.size, 0, none⟩ = some (.int .i64 1) := by rw [hW1.out, World.cell?_alloc_at _ _ _ _ (by simp)]; rfl
      have y2 : W1.cell? ⟨w.heap.size, 2, none⟩ = some (.string ⟨t.name.toArray⟩) := by rw [hW1.out, World.cell?_alloc_at _ _ _ _ (by simp)]; rfl
      obtain ⟨x, hx⟩ : ∃ x : ItemD, Hid (x = ⟨o.length, 1, t.name, [], t.attrs⟩) := ⟨_, rfl⟩
      obtain ⟨W2, hW2⟩ : ∃ W2, Hid (W2 = W1.alloc (.cells #[.int .i64 o.length, .int .i64 1, .string ⟨t.name.toArray⟩, .string ⟨#[]⟩, .slice A t.attrs.length c] 50)) := ⟨_, rfl⟩
      have hW2' : Hid (W2 = (w.alloc (.cells #[.int .i64 1, .int .i64 at_, .string ⟨t.name.toArray⟩, .string ⟨t.text.toArray⟩, .slice A t.attrs.length c] 33)).alloc (.cells #[.int .i64 o.length, .int .i64 1, .string ⟨t.name.toArray⟩, .string ⟨#[]⟩, .slice A t.attrs.length c] 50)) := by show _ = _; rw [hW2.out, hW1.out]
      have hb12 : Below W1.heap.size W1 W2 := by rw [hW2.out]; exact (Below.refl _ W1).alloc (Nat.le_refl _) _
      have hbW2 : Below w.heap.size w W2 := hbW1.trans (hb12.mono hbW1.size)
      have x0 : W2.cell? ⟨w.heap.size, 0, none⟩ = some (.int .i64 1) := (hb12.cell (p := ⟨w.heap.size, 0, none⟩) hz1).trans y0
      have x2 : W2.cell? ⟨w.heap.size, 2, none⟩ = some (.string ⟨t.name.toArray⟩) := (hb12.cell (p := ⟨w.heap.size, 2, none⟩) hz1).trans y2
      have hz2 : w.heap.size < W2.heap.size := Nat.lt_of_lt_of_le hz1 hb12.size
      have HI2 := Lib.hid (RInv.below HI.out hbW2)
      have HX2 : Hid (AttrsOwn W2 B A c x.attrs) := by show AttrsOwn _ _ _ _ _; rw [hx.out]; exact own_keep HA.out hbW2
      have hzB : B ≤ W2.heap.size := Nat.le_trans hBw hbW2.size
      have hfar : ∀ g, (Value.slice IA S.length Ic).ownBlock = some g → g = w.heap.size → False := fun g hg e => by have := (own_type HI.out.own g hg).2.1; omega
      clear y0 y2
      have HV : Hid ((Sum.inr (items ++ [(⟨o.length, 1, t.name, [], t.attrs⟩ : ItemD)], o ++ [t.name]) : Int ⊕ (List ItemD × List (List UInt8))) = .inr (items ++ [x], o ++ [t.name])) := by show _ = _; rw [hx.out]
      rw [HV.out]
      go_enter Try.func49, Try.ntmps49
      go_wp2_with (at_builtin; rw [← hW2'.out]; go_loud (refine appendS rfl (.tmp 72) (.tmp 74) 45 rfl B 50 (.agg #[.int .i64 0, .int .i64 0, .string ByteArray.empty, .string ByteArray.empty, .slice none 0 0]) 5 72 Try.underlying45 infoItem rfl (by decide) _ S.length _ (cellsI (⟨o.length, 1, t.name, [], t.attrs⟩, A, c)) rfl HI2.out.own hzB _ rfl (by rw [hW2'.out]; simp) (cellsI_length _) (cellsI_cell _) (by omega) (by decide) ?_))
      intro a4 c4 w4 hown4 hb4 hz4 hg4
      have hkeep4 : ∀ j, w4.cell? ⟨w.heap.size, j, none⟩ = W2.cell? ⟨w.heap.size, j, none⟩ := fun j =>
        (World.grownBy.cell_far hg4 ⟨w.heap.size, j, none⟩ (by show w.heap.size < _; simp; omega) (fun e => hfar _ e.symm rfl)).trans (World.cell?_alloc_lt _ _ _ (by show w.heap.size < _; exact hz2))
      have HI4 : Hid (RInv w4 B (S ++ [(x, A, c)]) a4 c4 (some ad) Oc (items ++ [x]) o) := by
        have hgrow : ∀ {e : TypeId} {size : Nat} {v : Value} {n : Nat} {xs : List Value}, W2.ownsRow B e size v n xs → e ≠ 50 → w4.ownsRow B e size v n xs := fun hr he =>
          own_grown (World.ownsRow.alloc hr _) (World.ownsRow.alloc HI2.out.own _) he hg4
        refine ⟨?_, fun s hs => ?_, hgrow HI2.out.names (by decide), by rw [List.map_append, HI2.out.map]; rfl⟩
        · unfold ItemsOwn
          rw [List.length_append, List.flatMap_append, hx.out]
          simpa using hown4
        · rcases List.mem_append.1 hs with hm | hm
          · exact hgrow (HI2.out.attrs s hm) (by decide)
          · simp at hm; subst hm
            exact hgrow HX2.out (by decide)
      have z0 : w4.cell? ⟨w.heap.size, 0, none⟩ = some (.int .i64 1) := (hkeep4 0).trans x0
      have z2 : w4.cell? ⟨w.heap.size, 2, none⟩ = some (.string ⟨t.name.toArray⟩) := (hkeep4 2).trans x2
      have hbw4 : Below B w w4 := (hbW2.mono hBw).trans hb4
      clear hown4 hg4 hkeep4 x0 x2
      obtain ⟨i0, hi0, hzi0, hzi1, hzi2⟩ := info_parts infoStr
      have hown : (w4.alloc (.cells #[] 9)).ownsRow w4.heap.size 9 1 (.slice (some ⟨w4.heap.size, 0, none⟩) 0 0) 0 [] :=
        ⟨by simp, .inr ⟨w4.heap.size, 0, #[], rfl, Nat.le_refl _, heap_alloc_new w4 _, Nat.le_refl _, by decide, by simp, by simp⟩⟩
      obtain ⟨g, rfl, hg, hcell⟩ := names_cells HI4.out.names
      go_wp2_with (at_builtin; refine wpList_append_own _ rfl (.tmp 79) (.tmp 80) 69 rfl w4.heap.size 9 i0 (.string ByteArray.empty) 1 16 Try.underlying69 hi0 hzi0 hzi1 hzi2 rfl (by decide) _ 0 [] rfl hown ⟨g, 0, none⟩ o.length Oc (o.map strV) rfl (by simp) ?c1 (by intro u hu; simp at hu; obtain ⟨_, _, rfl⟩ := hu; rfl) ?c2 ?c3 (by simp) ?c4)
      case c1 =>
        intro j u hu
        rw [add_zero_block, World.cell?_alloc_lt _ _ _ hg]
        exact hcell j u hu
      case c2 => unfold maxLen; omega
      case c3 => omega
      case c4 =>
        intro v' w5 hown5' hg5 _
        obtain ⟨A5, c5, rfl⟩ : ∃ A' c', v' = .slice A' o.length c' := by
          rcases hown5'.2 with ⟨h1, h2⟩ | ⟨g, c, cur, hv, _⟩
          · exact ⟨none, 0, h1.trans (by rw [show o.length = 0 by simpa using h2])⟩
          · exact ⟨_, c, by simpa using hv⟩
        have hown5 : w5.ownsRow w4.heap.size 9 1 (.slice A5 o.length c5) o.length (o.map strV) := by simpa using hown5'
        have hb5 : Below w4.heap.size w4 w5 := ((Below.refl _ w4).alloc (Nat.le_refl _) _).grown hg5 (by simp) (fun k hk => (hown.lt k hk).1)
        clear hown5' hg5 hown hcell
        have hzz : w.heap.size < w4.heap.size := Nat.lt_trans hz2 hz4
        have u2 : w5.cell? ⟨w.heap.size, 2, none⟩ = some (.string ⟨t.name.toArray⟩) := (hb5.cell (p := ⟨w.heap.size, 2, none⟩) hzz).trans z2
        have hB4 : B ≤ w4.heap.size := Nat.le_trans hBw hbw4.size
        have HI5 := Lib.hid (HI4.out.below hb5)
        have HO5 := Lib.hid (row_base hown5 hB4)
        have hzB5 : B ≤ w5.heap.size := Nat.le_trans hB4 hb5.size
        clear hown5 z0 z2
        go_wp2_with (at_builtin; first | (fail) | (skip; refine appendS rfl (.tmp 82) (.tmp 85) 69 rfl B 9 (.string ByteArray.empty) 1 16 Try.underlying69 infoStr rfl (by decide) _ o.length _ [strV t.name] rfl HO5.out hzB5 _ rfl (rfl) rfl (by intro u hu; simp at hu; subst hu; rfl) (by omega) (by decide) ?_))
        intro a6 c6 w6 hown6 hb6 hz6 hg6
        go_wp2_with fail
        go_ret3
        refine ⟨hbw4.trans ((hb5.mono (Nat.le_trans hBw hbw4.size)).trans hb6), S ++ [(x, A, c)], a4, c4, a6, c6, by simp, ?_⟩
        have hgrow : ∀ {e : TypeId} {size : Nat} {v : Value} {n : Nat} {xs : List Value}, w5.ownsRow B e size v n xs → e ≠ 9 → w6.ownsRow B e size v n xs := fun hr he =>
          own_grown (World.ownsRow.alloc hr _) (World.ownsRow.alloc HO5.out _) he hg6
        exact ⟨hgrow HI5.out.own (by decide), fun s hs => hgrow (HI5.out.attrs s hs) (by decide), by simpa using hown6, HI5.out.map⟩
    · have hpos : 0 < o.length := List.length_pos_iff.2 h0
      have t0 : ((o.length : Int) == 0) = false := by simp; omega
      have hS : (S.length : Int) < 1000 := by omega
      clear h0 h3 hlen
      obtain ⟨W1, hW1⟩ : ∃ W1, Hid (W1 = w.alloc (.cells #[.int .i64 1, .int .i64 at_, .string ⟨t.name.toArray⟩, .string ⟨t.text.toArray⟩, .slice A t.attrs.length c] 33)) := ⟨_, rfl⟩
      have hbW1 : Below w.heap.size w W1 := by rw [hW1.out]; exact (Below.refl _ w).alloc (Nat.le_refl _) _
      have hz1 : w.heap.size < W1.heap.size := by rw [hW1.out]; simp
      have y0 : W1.cell? ⟨w.heap.size, 0, none⟩ = some (.int .i64 1) := by rw [hW1.out, World.cell?_alloc_at _ _ _ _ (by simp)]; rfl
      have y2 : W1.cell? ⟨w.heap.size, 2, none⟩ = some (.string ⟨t.name.toArray⟩) := by rw [hW1.out, World.cell?_alloc_at _ _ _ _ (by simp)]; rfl
      obtain ⟨x, hx⟩ : ∃ x : ItemD, Hid (x = ⟨o.length, 1, t.name, [], t.attrs⟩) := ⟨_, rfl⟩
      obtain ⟨W2, hW2⟩ : ∃ W2, Hid (W2 = W1.alloc (.cells #[.int .i64 o.length, .int .i64 1, .string ⟨t.name.toArray⟩, .string ⟨#[]⟩, .slice A t.attrs.length c] 50)) := ⟨_, rfl⟩
      have hW2' : Hid (W2 = (w.alloc (.cells #[.int .i64 1, .int .i64 at_, .string ⟨t.name.toArray⟩, .string ⟨t.text.toArray⟩, .slice A t.attrs.length c] 33)).alloc (.cells #[.int .i64 o.length, .int .i64 1, .string ⟨t.name.toArray⟩, .string ⟨#[]⟩, .slice A t.attrs.length c] 50)) := by show _ = _; rw [hW2.out, hW1.out]
      have hb12 : Below W1.heap.size W1 W2 := by rw [hW2.out]; exact (Below.refl _ W1).alloc (Nat.le_refl _) _
      have hbW2 : Below w.heap.size w W2 := hbW1.trans (hb12.mono hbW1.size)
      have x0 : W2.cell? ⟨w.heap.size, 0, none⟩ = some (.int .i64 1) := (hb12.cell (p := ⟨w.heap.size, 0, none⟩) hz1).trans y0
      have x2 : W2.cell? ⟨w.heap.size, 2, none⟩ = some (.string ⟨t.name.toArray⟩) := (hb12.cell (p := ⟨w.heap.size, 2, none⟩) hz1).trans y2
      have hz2 : w.heap.size < W2.heap.size := Nat.lt_of_lt_of_le hz1 hb12.size
      have HI2 := Lib.hid (RInv.below HI.out hbW2)
      have HX2 : Hid (AttrsOwn W2 B A c x.attrs) := by show AttrsOwn _ _ _ _ _; rw [hx.out]; exact own_keep HA.out hbW2
      have hzB : B ≤ W2.heap.size := Nat.le_trans hBw hbW2.size
      have hfar : ∀ g, (Value.slice IA S.length Ic).ownBlock = some g → g = w.heap.size → False := fun g hg e => by have := (own_type HI.out.own g hg).2.1; omega
      clear y0 y2
      have HV : Hid ((Sum.inr (items ++ [(⟨o.length, 1, t.name, [], t.attrs⟩ : ItemD)], o ++ [t.name]) : Int ⊕ (List ItemD × List (List UInt8))) = .inr (items ++ [x], o ++ [t.name])) := by show _ = _; rw [hx.out]
      rw [HV.out]
      go_enter Try.func49, Try.ntmps49
      go_wp2_with (at_builtin; rw [← hW2'.out]; go_loud (refine appendS rfl (.tmp 72) (.tmp 74) 45 rfl B 50 (.agg #[.int .i64 0, .int .i64 0, .string ByteArray.empty, .string ByteArray.empty, .slice none 0 0]) 5 72 Try.underlying45 infoItem rfl (by decide) _ S.length _ (cellsI (⟨o.length, 1, t.name, [], t.attrs⟩, A, c)) rfl HI2.out.own hzB _ rfl (by rw [hW2'.out]; simp) (cellsI_length _) (cellsI_cell _) (by omega) (by decide) ?_))
      intro a4 c4 w4 hown4 hb4 hz4 hg4
      have hkeep4 : ∀ j, w4.cell? ⟨w.heap.size, j, none⟩ = W2.cell? ⟨w.heap.size, j, none⟩ := fun j =>
        (World.grownBy.cell_far hg4 ⟨w.heap.size, j, none⟩ (by show w.heap.size < _; simp; omega) (fun e => hfar _ e.symm rfl)).trans (World.cell?_alloc_lt _ _ _ (by show w.heap.size < _; exact hz2))
      have HI4 : Hid (RInv w4 B (S ++ [(x, A, c)]) a4 c4 (some ad) Oc (items ++ [x]) o) := by
        have hgrow : ∀ {e : TypeId} {size : Nat} {v : Value} {n : Nat} {xs : List Value}, W2.ownsRow B e size v n xs → e ≠ 50 → w4.ownsRow B e size v n xs := fun hr he =>
          own_grown (World.ownsRow.alloc hr _) (World.ownsRow.alloc HI2.out.own _) he hg4
        refine ⟨?_, fun s hs => ?_, hgrow HI2.out.names (by decide), by rw [List.map_append, HI2.out.map]; rfl⟩
        · unfold ItemsOwn
          rw [List.length_append, List.flatMap_append, hx.out]
          simpa using hown4
        · rcases List.mem_append.1 hs with hm | hm
          · exact hgrow (HI2.out.attrs s hm) (by decide)
          · simp at hm; subst hm
            exact hgrow HX2.out (by decide)
      have z0 : w4.cell? ⟨w.heap.size, 0, none⟩ = some (.int .i64 1) := (hkeep4 0).trans x0
      have z2 : w4.cell? ⟨w.heap.size, 2, none⟩ = some (.string ⟨t.name.toArray⟩) := (hkeep4 2).trans x2
      have hbw4 : Below B w w4 := (hbW2.mono hBw).trans hb4
      clear hown4 hg4 hkeep4 x0 x2
      obtain ⟨i0, hi0, hzi0, hzi1, hzi2⟩ := info_parts infoStr
      have hown : (w4.alloc (.cells #[] 9)).ownsRow w4.heap.size 9 1 (.slice (some ⟨w4.heap.size, 0, none⟩) 0 0) 0 [] :=
        ⟨by simp, .inr ⟨w4.heap.size, 0, #[], rfl, Nat.le_refl _, heap_alloc_new w4 _, Nat.le_refl _, by decide, by simp, by simp⟩⟩
      obtain ⟨g, rfl, hg, hcell⟩ := names_cells HI4.out.names
      go_wp2_with (at_builtin; refine wpList_append_own _ rfl (.tmp 79) (.tmp 80) 69 rfl w4.heap.size 9 i0 (.string ByteArray.empty) 1 16 Try.underlying69 hi0 hzi0 hzi1 hzi2 rfl (by decide) _ 0 [] rfl hown ⟨g, 0, none⟩ o.length Oc (o.map strV) rfl (by simp) ?c1 (by intro u hu; simp at hu; obtain ⟨_, _, rfl⟩ := hu; rfl) ?c2 ?c3 (by simp) ?c4)
      case c1 =>
        intro j u hu
        rw [add_zero_block, World.cell?_alloc_lt _ _ _ hg]
        exact hcell j u hu
      case c2 => unfold maxLen; omega
      case c3 => omega
      case c4 =>
        intro v' w5 hown5' hg5 _
        obtain ⟨A5, c5, rfl⟩ : ∃ A' c', v' = .slice A' o.length c' := by
          rcases hown5'.2 with ⟨h1, h2⟩ | ⟨g, c, cur, hv, _⟩
          · exact ⟨none, 0, h1.trans (by rw [show o.length = 0 by simpa using h2])⟩
          · exact ⟨_, c, by simpa using hv⟩
        have hown5 : w5.ownsRow w4.heap.size 9 1 (.slice A5 o.length c5) o.length (o.map strV) := by simpa using hown5'
        have hb5 : Below w4.heap.size w4 w5 := ((Below.refl _ w4).alloc (Nat.le_refl _) _).grown hg5 (by simp) (fun k hk => (hown.lt k hk).1)
        clear hown5' hg5 hown hcell
        have hzz : w.heap.size < w4.heap.size := Nat.lt_trans hz2 hz4
        have u2 : w5.cell? ⟨w.heap.size, 2, none⟩ = some (.string ⟨t.name.toArray⟩) := (hb5.cell (p := ⟨w.heap.size, 2, none⟩) hzz).trans z2
        have hB4 : B ≤ w4.heap.size := Nat.le_trans hBw hbw4.size
        have HI5 := Lib.hid (HI4.out.below hb5)
        have HO5 := Lib.hid (row_base hown5 hB4)
        have hzB5 : B ≤ w5.heap.size := Nat.le_trans hB4 hb5.size
        clear hown5 z0 z2
        go_wp2_with (at_builtin; first | (fail) | (skip; refine appendS rfl (.tmp 82) (.tmp 85) 69 rfl B 9 (.string ByteArray.empty) 1 16 Try.underlying69 infoStr rfl (by decide) _ o.length _ [strV t.name] rfl HO5.out hzB5 _ rfl (rfl) rfl (by intro u hu; simp at hu; subst hu; rfl) (by omega) (by decide) ?_))
        intro a6 c6 w6 hown6 hb6 hz6 hg6
        go_wp2_with fail
        go_ret3
        refine ⟨hbw4.trans ((hb5.mono (Nat.le_trans hBw hbw4.size)).trans hb6), S ++ [(x, A, c)], a4, c4, a6, c6, by simp, ?_⟩
        have hgrow : ∀ {e : TypeId} {size : Nat} {v : Value} {n : Nat} {xs : List Value}, w5.ownsRow B e size v n xs → e ≠ 9 → w6.ownsRow B e size v n xs := fun hr he =>
          own_grown (World.ownsRow.alloc hr _) (World.ownsRow.alloc HO5.out _) he hg6
        exact ⟨hgrow HI5.out.own (by decide), fun s hs => hgrow (HI5.out.attrs s hs) (by decide), by simpa using hown6, HI5.out.map⟩
end Go.Proofs.Ythifddkmbjnncaa

/-
  The document's Parse walked.
-/
namespace Go.Proofs.Ythifddkmbjnncaa
open Go.RowKit

theorem rpone_any (B : Nat) (items : List ItemD) (o : List (List UInt8)) (w : World) (S : List Slot) (IA OA : Option Addr) (Ic Oc : Nat) (h : RInv w B S IA Ic OA Oc items o) (hBw : B ≤ w.heap.size) (ho : o.length ≤ 1000000000) (hi : items.length ≤ 1000000000) (t : TokD) (at_ : Int) (A : Option Addr) (c : Nat) (hA : AttrsOwn w B A c t.attrs) (hk : t.kind = 1 ∨ t.kind = 2 ∨ t.kind = 3 ∨ t.kind = 4) (V : Int ⊕ (List ItemD × List (List UInt8))) (hV : Hid (takeT items o t = V)) :
    Calls Try.prog 49 #[.slice IA S.length Ic, .slice OA o.length Oc, .agg #[.int .i64 t.kind, .int .i64 at_, .string ⟨t.name.toArray⟩, .string ⟨t.text.toArray⟩, .slice A t.attrs.length c]] w (ROneP w B V) := by
  have hV' := hV.out
  clear hV
  unfold takeT at hV'
  by_cases h2 : t.kind = 2
  · rw [if_pos h2] at hV'
    rw [h2]
    have := rpclose_any B items o w S IA OA Ic Oc h hBw ho t at_ A c (decide (o.getLast? = some t.name)) (Lib.hid rfl)
    rw [← hV']
    by_cases hq : o.getLast? = some t.name
    · simpa [hq] using this
    · simpa [hq] using this
  · rw [if_neg h2] at hV'
    by_cases hE : addE items o t.kind = 0
    · rw [if_neg (fun hn => hn hE)] at hV'
      subst hV'
      rcases hk with hk | hk | hk | hk
      · have e : itemOf o.length t = ⟨o.length, 1, t.name, [], t.attrs⟩ := by unfold itemOf; rw [if_neg (by omega)]
        rw [if_pos hk, e, hk]
        exact rpadd1_any B items o w S IA OA Ic Oc h hBw t at_ A c hA (by rw [← hk]; exact hE)
      · exact absurd hk h2
      · have e : itemOf o.length t = ⟨o.length, 1, t.name, [], t.attrs⟩ := by unfold itemOf; rw [if_neg (by omega)]
        rw [if_neg (by omega), e, hk]
        exact rpadd3_any B items o w S IA OA Ic Oc h hBw t at_ A c hA (by rw [← hk]; exact hE)
      · have e : itemOf o.length t = ⟨o.length, 2, [], t.text, []⟩ := by unfold itemOf; rw [if_pos hk]
        rw [if_neg (by omega), e, hk]
        exact rpadd4_any B items o w S IA OA Ic Oc h hBw t at_ A c (by rw [← hk]; exact hE)
    · rw [if_pos hE] at hV'
      subst hV'
      exact rpno_any B items o w S IA OA Ic Oc (by rw [← h.map, List.length_map]) hBw ho hi t at_ A c h2 _ (Lib.hid rfl) hE

set_option maxRecDepth 100000 in
set_option maxHeartbeats 4000000 in
theorem RParse_any (s : ByteArray) (w : World) (hs : s.size ≤ 100000000) (R : List ItemD × Nat × Int) (hR : Hid (parseL 0 s.data.toList [] [] = R)) :
    Calls Try.prog 25 #[.string s] w (ParsePost w R) := by
  have HL := Lib.hid (size_toList s)
  have hR0 : Hid (parseL 0 (s.data.toList.drop 0) [] [] = R) := by show _ = _; rw [List.drop_zero]; exact hR.out
  go_enter Try.func25, Try.ntmps25
  go_wp2_with fail
  go_loopw [5, 6, 7] (fun il ol i wr => ∃ (p : Nat) (items : List ItemD) (o : List (List UInt8)) (S : List Slot) (IA : Option Addr) (Ic : Nat) (OA : Option Addr) (Oc m n0 : Nat), p ≤ s.size ∧ items.length ≤ p ∧ o.length ≤ p ∧ i = .int .i64 p ∧ il = .slice IA m Ic ∧ ol = .slice OA n0 Oc ∧ Hid (S.length = m) ∧ Hid (o.length = n0) ∧ Hid (RInv wr w.heap.size S IA Ic OA Oc items o) ∧ Hid (Below w.heap.size w wr) ∧ Hid (parseL p (s.data.toList.drop p) items o = R)) (fun _ _ i _ => s.size - (intOf i).toNat)
  case atStart => exact ⟨0, [], [], [], none, 0, none, 0, 0, 0, Nat.zero_le _, Nat.zero_le _, Nat.zero_le _, rfl, rfl, rfl, rfl, rfl, ⟨World.ownsRow_nil _ _ _ _, fun _ h => absurd h List.not_mem_nil, World.ownsRow_nil _ _ _ _, rfl⟩, Below.refl _ _, hR0.out⟩
  case round =>
    obtain ⟨p, items, o, S, IA, Ic, OA, Oc, m, n0, hps, hip, hop, rfl, rfl, rfl, hm, hn0, hP, hbel, hin⟩ := hrel
    by_cases hlt : p < s.size
    · have hlt' : (p : Int) < s.size := by omega
      have hne : Hid (s.data.toList.drop p ≠ []) := by
        show _ ≠ _
        intro e
        have := congrArg List.length e
        rw [List.length_drop, HL.out] at this
        simp at this; omega
      obtain ⟨V, hV⟩ : ∃ V, Hid (oneT (s.data.toList.drop p) = V) := ⟨_, rfl⟩
      have hwit := oneT_within _ hne.out
      rw [hV.out, List.length_drop, HL.out] at hwit
      have hs' : s.size ≤ 1000000000 := by omega
      go_wp2_with fail
      refine (ROne_any s p wr hlt hs' V hV).mono ?_
      rintro e1 w2 ⟨hb2, hpost⟩
      have hbw2 : Below w.heap.size w w2 := hbel.out.trans (hb2.mono hbel.out.size)
      cases V with
      | bad k e =>
        have he : e ≠ 0 := hwit.2
        have he1 : (e != 0) = true := by simpa using he
        have HE := Lib.hid he
        have HR : Hid (R = ([], p + k, e)) := by
          show _ = _
          rw [← hin.out, parseL_bad _ _ _ _ hne.out k e hV.out]
        have hee : e1 = .returned (.tuple #[.agg #[.int .i64 0, .int .i64 0, .string ⟨#[]⟩, .string ⟨#[]⟩, .slice none 0 0], .int .i64 0, .int .i64 (p + k : Nat), .int .i64 e]) := hpost
        clear he hwit hpost
        subst hee
        go_wp2_with fail
        go_ret3
        rw [HR.out]
        exact ⟨hbw2.alloc hbw2.size _, .inr ⟨HE.out, rfl⟩⟩
      | ok t n =>
        obtain ⟨A2, c2, hee0, hA2'⟩ := hpost
        have hA2 := Lib.hid hA2'
        clear hA2'
        have hee : e1 = .returned (.tuple #[.agg #[.int .i64 t.kind, .int .i64 p, .string ⟨t.name.toArray⟩, .string ⟨t.text.toArray⟩, .slice A2 t.attrs.length c2], .int .i64 (p + n : Nat), .int .i64 0, .int .i64 0]) := hee0
        clear hee0
        subst hee
        obtain ⟨hn1, hn2⟩ := hwit
        have hkk := tok_kinds hV.out
        obtain ⟨W2, hW2⟩ : ∃ W2, Hid (W2 = w2.alloc (.cells #[.int .i64 t.kind, .int .i64 p, .string ⟨t.name.toArray⟩, .string ⟨t.text.toArray⟩, .slice A2 t.attrs.length c2] 33)) := ⟨_, rfl⟩
        have hb2' : Below wr.heap.size wr W2 := by rw [hW2.out]; exact hb2.alloc hb2.size _
        have hbw : Below w.heap.size w W2 := hbel.out.trans (hb2'.mono hbel.out.size)
        have HP2 := Lib.hid (RInv.below hP.out hb2')
        have HA2 : Hid (AttrsOwn W2 w.heap.size A2 c2 t.attrs) := by
          show AttrsOwn _ _ _ _ _
          rw [hW2.out]
          exact row_base (World.ownsRow.alloc hA2.out _) hbel.out.size
        obtain ⟨q, hq⟩ : ∃ q, Hid (takeT items o t = q) := ⟨_, rfl⟩
        have HK := Lib.hid hkk
        clear hkk
        go_wp2_with fail
        rw [← hW2.out]
        rw [← hm.out, ← hn0.out]
        refine (rpone_any w.heap.size items o W2 S IA OA Ic Oc HP2.out hbw.size (by omega) (by omega) t p A2 c2 HA2.out HK.out q hq).mono ?_
        rintro e w3 ⟨hb3, hpost3⟩
        cases q with
        | inl e' =>
          obtain ⟨u3, v3, rfl⟩ := hpost3
          have HE : Hid (e' ≠ 0) := takeT_ne hq.out
          have he1 : (e' != 0) = true := by simpa using HE.out
          have HR : Hid (R = ([], p, e')) := by
            show _ = _
            rw [← hin.out, parseL_no _ _ _ _ hne.out t n hV.out e' hq.out]
          go_wp2_with fail
          go_ret3
          rw [HR.out]
          exact ⟨hbw.trans hb3, .inr ⟨HE.out, rfl⟩⟩
        | inr q =>
          obtain ⟨S3, IA3, Ic3, OA3, Oc3, rfl, hP3⟩ := hpost3
          obtain ⟨m3, hm3⟩ : ∃ m3, Hid (S3.length = m3) := ⟨_, rfl⟩
          obtain ⟨n3, hn3⟩ : ∃ n3, Hid (q.2.length = n3) := ⟨_, rfl⟩
          rw [hm3.out, hn3.out]
          obtain ⟨hq1, hq2⟩ := takeT_small hq.out
          have HIN : Hid (parseL (p + n) (s.data.toList.drop (p + n)) q.1 q.2 = R) := by
            show _ = _
            rw [← hin.out, parseL_step _ _ _ _ hne.out t n hV.out q hq.out, List.drop_drop]
          have HP3 := Lib.hid hP3
          clear hP3
          go_wp2_with fail
          go_roundw
          case rel => exact ⟨p + n, q.1, q.2, S3, IA3, Ic3, OA3, Oc3, m3, n3, by omega, by omega, by omega, by go_num, rfl, rfl, hm3.out, hn3.out, HP3.out, hbw.trans hb3, HIN.out⟩
          case measure => simp [intOf]; omega
    · have hlt' : (s.size : Int) ≤ (p : Int) := by omega
      have hpe : Hid (p = s.size) := by show p = s.size; omega
      have HR : Hid (R = endP items o s.size) := by
        show _ = _
        rw [← hin.out, List.drop_eq_nil_of_le (by rw [HL.out]; omega), parseL_nil, hpe.out]
      have hlen : Hid (m = items.length) := by show _ = _; rw [← hP.out.map, List.length_map, hm.out]
      by_cases hi0 : items = []
      · have hv : Hid (R = ([], s.size, 40)) := by show _ = _; rw [HR.out]; unfold endP; rw [if_pos hi0]
        have t0 : ((m : Int) == 0) = true := by have := hlen.out; rw [hi0] at this; simp [this]
        clear hi0
        go_wp2_with fail
        go_ret3
        rw [hv.out]
        exact ⟨hbel.out, .inr ⟨by simp, rfl⟩⟩
      · have hpos : 0 < items.length := List.length_pos_iff.2 hi0
        have t0 : ((m : Int) == 0) = false := beq_eq_false_iff_ne.2 (by have := hlen.out; omega)
        by_cases ho0 : o = []
        · have hv : Hid (R = (items, 0, 0)) := by show _ = _; rw [HR.out]; unfold endP; rw [if_neg hi0, if_neg (fun h => h ho0)]
          have t1 : n0 ≤ 0 := by rw [← hn0.out, ho0]; simp
          clear hi0 ho0
          go_wp2_with fail
          all_goals try (exfalso; omega)
          go_ret3
          rw [hv.out]
          exact ⟨hbel.out, .inl ⟨rfl, IA, Ic, S, by rw [hm.out]; rfl, hP.out.own, hP.out.attrs, hP.out.map⟩⟩
        · have hv : Hid (R = ([], s.size, 41)) := by show _ = _; rw [HR.out]; unfold endP; rw [if_neg hi0, if_pos ho0]
          have t1 : 0 < n0 := by rw [← hn0.out]; exact List.length_pos_iff.2 ho0
          clear hi0 ho0
          go_wp2_with fail
          all_goals try (exfalso; omega)
          go_ret3
          rw [hv.out]
          exact ⟨hbel.out, .inr ⟨by simp, rfl⟩⟩
end Go.Proofs.Ythifddkmbjnncaa
