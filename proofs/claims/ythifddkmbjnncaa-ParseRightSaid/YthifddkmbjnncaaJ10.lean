/-
  Texts of this claim, joined (by a program of the claim's author): Parse, Alive4, Places.
-/
import Derived.Test.YthifddkmbjnncaaJ9
import Derived.Test.YthifddkmbjnncaaJ8
/-
  parse.Parse walked.
-/
namespace Go.Proofs.Ythifddkmbjnncaa
open Go.RowKit

def ParsePost (w : World) (R : List ItemD × Nat × Int) (e : Ending) (w' : World) : Prop :=
  Below w.heap.size w w' ∧ ((R.2.2 = 0 ∧ ∃ A c S, e = .returned (.tuple #[.slice A S.length c, .int .i64 0, .int .i64 0]) ∧ ItemsOwn w' w.heap.size A c S ∧ (∀ s ∈ S, AttrsOwn w' w.heap.size s.2.1 s.2.2 s.1.attrs) ∧ S.map (·.1) = R.1)
    ∨ (R.2.2 ≠ 0 ∧ e = .returned (.tuple #[.slice none 0 0, .int .i64 R.2.1, .int .i64 R.2.2])))

theorem takeT_small {items : List ItemD} {o : List (List UInt8)} {t : TokD} {q : List ItemD × List (List UInt8)} (h : takeT items o t = .inr q) : q.1.length ≤ items.length + 1 ∧ q.2.length ≤ o.length + 1 := by
  unfold takeT at h
  split at h
  · split at h
    · injection h with h; subst h; simp; omega
    · cases h
  · split at h
    · cases h
    · injection h with h; subst h
      refine ⟨by simp, ?_⟩
      simp only
      split
      · simp
      · omega
theorem takeT_ne {items : List ItemD} {o : List (List UInt8)} {t : TokD} {e : Int} (h : takeT items o t = .inl e) : e ≠ 0 := by
  unfold takeT at h
  split at h
  · split at h
    · cases h
    · injection h with h; omega
  · split at h
    · rename_i hn; injection h with h; rw [← h]; exact hn
    · cases h
theorem tok_kinds {l : List UInt8} {t : TokD} {n : Nat} (h : oneT l = .ok t n) : t.kind = 1 ∨ t.kind = 2 ∨ t.kind = 3 ∨ t.kind = 4 := by
  rcases oneT_fine h with ⟨hk, _⟩ | ⟨hk, _⟩ | ⟨hk, _⟩
  · exact .inr (.inr (.inr hk))
  · exact .inr (.inl hk)
  · rcases hk with hk | hk
    · exact .inl hk
    · exact .inr (.inr (.inl hk))
theorem parseF_form : ∀ (f : Nat) (p : Nat) (l : List UInt8) (items : List ItemD) (o : List (List UInt8)), (parseF f p l items o).2.2 ≠ 0 → (parseF f p l items o).1 = []
  | 0, p, l, items, o, h => by
    rw [parseF] at h ⊢
    unfold endP at h ⊢
    split
    · rfl
    · rename_i hi; rw [if_neg hi] at h
      split
      · rfl
      · rename_i ho; rw [if_neg ho] at h; exact absurd rfl h
  | f + 1, p, l, items, o, h => by
    rw [parseF] at h ⊢
    split
    · rename_i hl
      rw [if_pos hl] at h
      unfold endP at h ⊢
      split
      · rfl
      · rename_i hi; rw [if_neg hi] at h
        split
        · rfl
        · rename_i ho; rw [if_neg ho] at h; exact absurd rfl h
    · rename_i hl
      rw [if_neg hl] at h
      cases ho : oneT l with
      | bad k e => rfl
      | ok t n =>
        rw [ho] at h
        simp only at h ⊢
        cases ht : takeT items o t with
        | inl e => rfl
        | inr q =>
          rw [ht] at h
          exact parseF_form f _ _ _ _ h

set_option maxRecDepth 100000 in
set_option maxHeartbeats 4000000 in
theorem Parse_any (s : ByteArray) (w : World) (hs : s.size ≤ 100000000) (R : List ItemD × Nat × Int) (hR : Hid (parseL 0 s.data.toList [] [] = R)) :
    Calls Try.prog 24 #[.string s] w (ParsePost w R) := by
  have HL := Lib.hid (size_toList s)
  have hR0 : Hid (parseL 0 (s.data.toList.drop 0) [] [] = R) := by show _ = _; rw [List.drop_zero]; exact hR.out
  go_enter Try.func24, Try.ntmps24
  go_wp2_with fail
  obtain ⟨b, hbq⟩ : ∃ b, Hid (b = w.heap.size) := ⟨_, rfl⟩
  obtain ⟨W0, hW0⟩ : ∃ W0, Hid (W0 = w.alloc (.cells #[.slice none 0 0, .slice none 0 0] 71)) := ⟨_, rfl⟩
  rw [← hW0.out]
  rw [← hbq.out]
  have hP0 : PInv W0 w.heap.size b [] [] := by
    refine ⟨[], none, 0, none, 0, ?_, World.ownsRow_nil _ _ _ _, fun _ h => absurd h List.not_mem_nil, .inl ⟨rfl, rfl, rfl⟩, rfl⟩
    show W0.heap[b]? = _
    rw [hW0.out, hbq.out]
    exact heap_alloc_new w _
  have hb0 : Below w.heap.size w W0 := by rw [hW0.out]; exact (Below.refl _ w).alloc (Nat.le_refl _) _
  have hBb : w.heap.size ≤ b := by rw [hbq.out]; exact Nat.le_refl _
  go_loopw [6] (fun i wr => ∃ (p : Nat) (items : List ItemD) (o : List (List UInt8)), p ≤ s.size ∧ items.length ≤ p ∧ o.length ≤ p ∧ i = .int .i64 p ∧ Hid (PInv wr w.heap.size b items o) ∧ Hid (Below w.heap.size w wr) ∧ Hid (parseL p (s.data.toList.drop p) items o = R)) (fun i _ => s.size - (intOf i).toNat)
  case atStart => exact ⟨0, [], [], Nat.zero_le _, Nat.zero_le _, Nat.zero_le _, rfl, hP0, hb0, hR0.out⟩
  case round =>
    obtain ⟨p, items, o, hps, hip, hop, rfl, hP, hbel, hin⟩ := hrel
    by_cases hlt : p < s.size
    · have hlt' : (p : Int) < s.size := by omega
      have hne : Hid (s.data.toList.drop p ≠ []) := by
        show _ ≠ _
        intro e
        have := congrArg List.length e
        rw [List.length_drop, HL.out] at this
        simp at this; omega
      obtain ⟨V, hV⟩ : ∃ V, Hid (oneT (s.data.toList.drop p) = V) := ⟨_, rfl⟩
      have hwit := oneT_within _ hne.out
      rw [hV.out, List.length_drop, HL.out] at hwit
      have hs' : s.size ≤ 1000000000 := by omega
      go_wp2_with fail
      refine (One_any s p wr hlt hs' V hV).mono ?_
      rintro e1 w2 ⟨hb2, hpost⟩
      have hbw2 : Below w.heap.size w w2 := hbel.out.trans (hb2.mono hbel.out.size)
      cases V with
      | bad k e =>
        have he : e ≠ 0 := hwit.2
        have he1 : (e != 0) = true := by simpa using he
        have HE := Lib.hid he
        have HR : Hid (R = ([], p + k, e)) := by
          show _ = _
          rw [← hin.out, parseL_bad _ _ _ _ hne.out k e hV.out]
        have hee : e1 = .returned (.tuple #[.agg #[.int .i64 0, .int .i64 0, .string ⟨#[]⟩, .string ⟨#[]⟩, .slice none 0 0], .int .i64 0, .int .i64 (p + k : Nat), .int .i64 e]) := hpost
        clear he hwit hpost
        subst hee
        go_wp2_with fail
        go_ret3
        rw [HR.out]
        exact ⟨hbw2.alloc hbw2.size _, .inr ⟨HE.out, rfl⟩⟩
      | ok t n =>
        obtain ⟨A2, c2, hee0, hA2'⟩ := hpost
        have hA2 := Lib.hid hA2'
        clear hA2'
        have hee : e1 = .returned (.tuple #[.agg #[.int .i64 t.kind, .int .i64 p, .string ⟨t.name.toArray⟩, .string ⟨t.text.toArray⟩, .slice A2 t.attrs.length c2], .int .i64 (p + n : Nat), .int .i64 0, .int .i64 0]) := hee0
        clear hee0
        subst hee
        obtain ⟨hn1, hn2⟩ := hwit
        have hkk := tok_kinds hV.out
        obtain ⟨W2, hW2⟩ : ∃ W2, Hid (W2 = w2.alloc (.cells #[.int .i64 t.kind, .int .i64 p, .string ⟨t.name.toArray⟩, .string ⟨t.text.toArray⟩, .slice A2 t.attrs.length c2] 34)) := ⟨_, rfl⟩
        have hb2' : Below wr.heap.size wr W2 := by rw [hW2.out]; exact hb2.alloc hb2.size _
        have hbw : Below w.heap.size w W2 := hbel.out.trans (hb2'.mono hbel.out.size)
        have HP2 := Lib.hid (PInv.below hP.out hb2')
        have HA2 : Hid (AttrsOwn W2 w.heap.size A2 c2 t.attrs) := by
          show AttrsOwn _ _ _ _ _
          rw [hW2.out]
          exact row_base (World.ownsRow.alloc hA2.out _) hbel.out.size
        obtain ⟨q, hq⟩ : ∃ q, Hid (takeT items o t = q) := ⟨_, rfl⟩
        have HK := Lib.hid hkk
        clear hkk
        go_wp2_with fail
        rw [← hW2.out]
        refine (take_any b w.heap.size items o W2 HP2.out hBb hbw.size (by omega) (by omega) t p A2 c2 HA2.out HK.out q hq).mono ?_
        rintro e w3 ⟨hb3, hpost3⟩
        cases q with
        | inl e' =>
          obtain rfl := hpost3
          have HE : Hid (e' ≠ 0) := takeT_ne hq.out
          have he1 : (e' != 0) = true := by simpa using HE.out
          have HR : Hid (R = ([], p, e')) := by
            show _ = _
            rw [← hin.out, parseL_no _ _ _ _ hne.out t n hV.out e' hq.out]
          go_wp2_with fail
          go_ret3
          rw [HR.out]
          exact ⟨hbw.trans hb3, .inr ⟨HE.out, rfl⟩⟩
        | inr q =>
          obtain ⟨rfl, hP3⟩ := hpost3
          obtain ⟨hq1, hq2⟩ := takeT_small hq.out
          have HIN : Hid (parseL (p + n) (s.data.toList.drop (p + n)) q.1 q.2 = R) := by
            show _ = _
            rw [← hin.out, parseL_step _ _ _ _ hne.out t n hV.out q hq.out, List.drop_drop]
          have HP3 := Lib.hid hP3
          clear hP3
          go_wp2_with fail
          go_roundw
          case rel => exact ⟨p + n, q.1, q.2, by omega, by omega, by omega, by go_num, HP3.out, hbw.trans hb3, HIN.out⟩
          case measure => simp [intOf]; omega
    · have hlt' : (s.size : Int) ≤ (p : Int) := by omega
      have hpe : Hid (p = s.size) := by show p = s.size; omega
      have HR : Hid (R = endP items o s.size) := by
        show _ = _
        rw [← hin.out, List.drop_eq_nil_of_le (by rw [HL.out]; omega), parseL_nil, hpe.out]
      obtain ⟨S, IA, Ic, OA, Oc, h1, h2, h3, h4, h5⟩ := hP.out.out
      obtain ⟨z0, z1, _⟩ := h1.cells
      have hlen : Hid (S.length = items.length) := by show _ = _; rw [← h5, List.length_map]
      have H2 := Lib.hid h2
      have H3 : Hid (∀ s ∈ S, AttrsOwn wr w.heap.size s.2.1 s.2.2 s.1.attrs) := h3
      have H5 := Lib.hid h5
      clear h1 h2 h3 h4 h5
      by_cases hi0 : items = []
      · have hv : Hid (R = ([], s.size, 40)) := by show _ = _; rw [HR.out]; unfold endP; rw [if_pos hi0]
        have t0 : ((S.length : Int) == 0) = true := by have := hlen.out; rw [hi0] at this; simp [this]
        clear hi0
        go_wp2_with fail
        go_ret3
        rw [hv.out]
        exact ⟨hbel.out, .inr ⟨by simp, rfl⟩⟩
      · have hpos : 0 < items.length := List.length_pos_iff.2 hi0
        have t0 : ((S.length : Int) == 0) = false := beq_eq_false_iff_ne.2 (by have := hlen.out; omega)
        by_cases ho0 : o = []
        · have hv : Hid (R = (items, 0, 0)) := by show _ = _; rw [HR.out]; unfold endP; rw [if_neg hi0, if_neg (fun h => h ho0)]
          have t1 : o.length ≤ 0 := by rw [ho0]; simp
          clear hi0 ho0
          go_wp2_with fail
          all_goals try (exfalso; omega)
          go_ret3
          rw [hv.out]
          exact ⟨hbel.out, .inl ⟨rfl, IA, Ic, S, rfl, H2.out, H3.out, H5.out⟩⟩
        · have hv : Hid (R = ([], s.size, 41)) := by show _ = _; rw [HR.out]; unfold endP; rw [if_neg hi0, if_pos ho0]
          have t1 : 0 < o.length := List.length_pos_iff.2 ho0
          clear hi0 ho0
          go_wp2_with fail
          all_goals try (exfalso; omega)
          go_ret3
          rw [hv.out]
          exact ⟨hbel.out, .inr ⟨by simp, rfl⟩⟩
end Go.Proofs.Ythifddkmbjnncaa

/-
  The walk of law04.alive.
-/
namespace Go.Proofs.Ythifddkmbjnncaa
open Go.RowKit

def aliveI : List ItemD := [⟨0, 1, [97], [], []⟩, ⟨1, 2, [], [120], []⟩, ⟨1, 1, [98], [], []⟩]
theorem alive_parse : parseL 0 [60, 97, 62, 120, 60, 98, 47, 62, 60, 47, 97, 62] [] [] = (aliveI, 0, 0) := by decide +kernel
theorem alive_parse2 : parseL 0 [60, 97, 62, 60, 47, 98, 62] [] [] = ([], 3, 41) := by decide +kernel
theorem three_of {α : Type} : ∀ {l : List α}, l.length = 3 → ∃ a b c, l = [a, b, c]
  | [a, b, c], _ => ⟨a, b, c, rfl⟩

theorem ItemsOwn.cells {w : World} {B : Nat} {A : Option Addr} {c : Nat} {S : List Slot} (h : ItemsOwn w B A c S) (hl : 0 < S.length) :
    ∃ g, A = some ⟨g, 0, none⟩ ∧ B ≤ g ∧ g < w.heap.size ∧ ∀ k x j u, S[k]? = some x → (cellsI x)[j]? = some u → w.cell? ⟨g, k * 5 + j, none⟩ = some u := by
  obtain ⟨g, rfl, hB, hg, _, hc⟩ := own_flat cellsI cellsI_length h hl
  refine ⟨g, rfl, hB, hg, fun k x j u hx hu => ?_⟩
  have := hc k x j u hx hu
  rwa [add_zero_block] at this

set_option maxRecDepth 100000 in
set_option maxHeartbeats 2000000 in
theorem alive4_any (w : World) : Calls Try.prog 23 #[] w (Ret w (.bool true)) := by
  have HP : Hid (parseL 0 (⟨#[60, 97, 62, 120, 60, 98, 47, 62, 60, 47, 97, 62]⟩ : ByteArray).data.toList [] [] = (aliveI, 0, 0)) := alive_parse
  have HP2 : Hid (parseL 0 (⟨#[60, 97, 62, 60, 47, 98, 62]⟩ : ByteArray).data.toList [] [] = ([], 3, 41)) := alive_parse2
  go_enter Try.func23, Try.ntmps23
  go_wp2_with fail
  refine (Parse_any _ w (by decide) _ HP).mono ?_
  rintro e w1 ⟨hb1, hpost⟩
  rcases hpost with ⟨_, A, c, S, hee, hown, hat, hS⟩ | ⟨h, _⟩
  · have hlen : S.length = 3 := by have := congrArg List.length hS; simpa [aliveI] using this
    obtain ⟨x0, x1, x2, rfl⟩ := three_of hlen
    obtain ⟨x0, A0, c0⟩ := x0
    obtain ⟨x1, A1, c1⟩ := x1
    obtain ⟨x2, A2, c2⟩ := x2
    simp only [List.map_cons, List.map_nil, aliveI, List.cons.injEq, and_true] at hS
    obtain ⟨rfl, rfl, rfl⟩ := hS
    obtain ⟨g, rfl, hBg, hg, hc⟩ := hown.cells (by simp)
    have y8 : w1.cell? ⟨g, 8, none⟩ = some (.string ⟨#[120]⟩) := hc 1 _ 3 _ rfl rfl
    have y10 : w1.cell? ⟨g, 10, none⟩ = some (.int .i64 1) := hc 2 _ 0 _ rfl rfl
    have y12 : w1.cell? ⟨g, 12, none⟩ = some (.string ⟨#[98]⟩) := hc 2 _ 2 _ rfl rfl
    have hee' : e = .returned (.tuple #[.slice (some ⟨g, 0, none⟩) 3 c, .int .i64 0, .int .i64 0]) := hee
    clear hee hown hat hc
    subst hee'
    go_wp2_with fail
    refine (Parse_any _ w1 (by decide) _ HP2).mono ?_
    rintro e w2 ⟨hb2, hpost⟩
    rcases hpost with ⟨h, _⟩ | ⟨_, hee⟩
    · exact absurd h (by decide)
    · have hee' : e = .returned (.tuple #[.slice none 0 0, .int .i64 3, .int .i64 41]) := hee
      clear hee
      subst hee'
      rw [← hb2.cell (p := ⟨g, 8, none⟩) hg] at y8
      rw [← hb2.cell (p := ⟨g, 10, none⟩) hg] at y10
      rw [← hb2.cell (p := ⟨g, 12, none⟩) hg] at y12
      go_wp2_with fail
      go_ret
      exact ⟨rfl, hb1.trans (hb2.mono hb1.size)⟩
  · exact absurd rfl h
end Go.Proofs.Ythifddkmbjnncaa

/-
  The walks of End and of Parent, of the program and of the document; the law ParsePlaces.
-/
namespace Go.Proofs.Ythifddkmbjnncaa
open Go.RowKit

def parL (l : List ItemD) (k : Int) : Int := if k < 0 ∨ l.length ≤ k then -1 else match l[k.toNat]? with
  | some x => parN l x.level k.toNat
  | none => -1

set_option maxRecDepth 100000 in
set_option maxHeartbeats 1000000 in
theorem End_all (l : List ItemD) (A : Option Addr) (c : Nat) (k : Int) (w : World) (hA : ItemsAt w w.heap.size A l) (hl : l.length ≤ 1000000000) :
    Calls Try.prog 27 #[.slice A l.length c, .int .i64 k] w (Ret w (.int .i64 (endL l k))) := by
  by_cases h0 : k < 0
  · have e : endL l k = 0 := by unfold endL; rw [if_pos (.inl h0)]
    rw [e]
    clear hA e
    go_enter Try.func27, Try.ntmps27
    go_wp2_with fail
    go_ret
    exact ⟨rfl, Below.refl _ _⟩
  · by_cases h1 : (l.length : Int) ≤ k
    · have e : endL l k = 0 := by unfold endL; rw [if_pos (.inr h1)]
      rw [e]
      clear hA e
      go_enter Try.func27, Try.ntmps27
      go_wp2_with fail
      go_ret
      exact ⟨rfl, Below.refl _ _⟩
    · obtain ⟨n, rfl⟩ : ∃ n : Nat, k = n := ⟨k.toNat, by omega⟩
      have hn : n < l.length := by omega
      obtain ⟨ad, rfl, _⟩ := hA (by omega)
      have e : endL l n = (endN l n : Nat) := by unfold endL; rw [if_neg (by omega)]; rfl
      rw [e]
      exact End_in l ad c n l[n] w hA (List.getElem?_eq_getElem hn) hl _ rfl

set_option maxRecDepth 100000 in
set_option maxHeartbeats 2000000 in
theorem REnd_in (l : List ItemD) (ad : Addr) (c k : Nat) (x : ItemD) (w : World) (hA : ItemsAt w w.heap.size (some ad) l) (hx : l[k]? = some x) (hl : l.length ≤ 1000000000) (E : Nat) (hE : Hid (endN l k = E)) :
    Calls Try.prog 28 #[.slice (some ad) l.length c, .int .i64 k] w (Ret w (.int .i64 E)) := by
  have hk : k < l.length := (List.getElem?_eq_some_iff.1 hx).1
  have HA := Lib.hid hA
  obtain ⟨hb, _, _, _, _, hx0, _⟩ := hA.item hx
  have hE0 : Hid (k + 1 + (kidsOf x.level (l.drop (k + 1))).length = E) := by
    show _ = _
    rw [← hE.out]
    unfold endN
    rw [drop_cons hx]
  clear hA hx hE
  have i0 : (0 : Int) ≤ (k : Int) := by omega
  have i1 : (k : Int) < l.length := by omega
  have t0 : decide ((k : Int) < 0) = false := by simp
  have t1 : decide ((l.length : Int) ≤ k) = false := by simp; omega
  have t2 : decide (l.length ≤ k) = false := by simp; omega
  have HX0 := Lib.hid hx0
  clear hx0
  go_enter Try.func28, Try.ntmps28
  go_wp2_with fail
  clear t0 t1 t2
  go_loopw [5] (fun i wr => ∃ (n : Nat), k + 1 ≤ n ∧ n ≤ l.length ∧ i = .int .i64 n ∧ Hid (n + (kidsOf x.level (l.drop n)).length = E) ∧ Below w.heap.size w wr) (fun i _ => l.length - (intOf i).toNat)
  case atStart => exact ⟨k + 1, Nat.le_refl _, hk, by go_num, hE0, Below.refl _ _⟩
  case round =>
    obtain ⟨n, hkn, hnl, rfl, hin, hbel⟩ := hrel
    have hx0 : wr.drew.cell? (ad.add (k * 5)) = some (.int .i64 x.level) := (hbel.drew.cell (by rw [block_of_add]; exact hb)).trans HX0.out
    have j0 : (0 : Int) ≤ (n : Int) := by omega
    by_cases hlt : n < l.length
    · obtain ⟨y, hy⟩ : ∃ y, Hid (l[n]? = some y) := ⟨l[n], List.getElem?_eq_getElem _⟩
      obtain ⟨_, _, _, _, _, hy0, _⟩ := HA.out.item hy.out
      have hy0' : wr.drew.cell? (ad.add (n * 5)) = some (.int .i64 y.level) := (hbel.drew.cell (by rw [block_of_add]; exact hb)).trans hy0
      have hstep := kids_step x.level l n y hy.out
      have hin' := hin.out
      rw [hstep] at hin'
      have j1 : (n : Int) < l.length := by omega
      have HS : Hid (wr.drew.cell? (ad.add (k * 5)) = some (.int .i64 x.level) ∧ wr.drew.cell? (ad.add (n * 5)) = some (.int .i64 y.level)) := ⟨hx0, hy0'⟩
      clear hx0 hy0 hy0' hstep hin
      by_cases hc : x.level < y.level
      · rw [if_pos hc] at hin'
        have HIN : Hid (n + 1 + (kidsOf x.level (l.drop (n + 1))).length = E) := by show _ = _; rw [← hin']; omega
        have d1 : decide (y.level ≤ x.level) = false := by simpa using hc
        clear hin' hc
        go_wp2_with fail
        refine wp_region_held_drew (S := fun w' => w'.cell? (ad.add (k * 5)) = some (.int .i64 x.level) ∧ w'.cell? (ad.add (n * 5)) = some (.int .i64 y.level)) (by kernel_rfl) HS.out (fun hHeld => ?_)
        refine wpAnyH_take (i := 0) (oi := ⟨_, _, _, _, _, _⟩) (v := ?_) rfl (by kernel_rfl) (by kernel_rfl) (by kernel_rfl) (fun _ _ _ h => h) (Or.inl ⟨by rfl, ?_⟩) (by assumption) ?_
        rotate_left
        · (intro wS hSw; (try dsimp only at hSw); go_simp); all_goals with_reducible rfl
        try simp only [Act.put, List.setIfInBounds_toArray, List.set_cons_zero, List.set_cons_succ]
        refine wpAnyH_take (i := 1) (oi := ⟨_, _, _, _, _, _⟩) (v := ?_) rfl (by kernel_rfl) (by kernel_rfl) (by kernel_rfl) (fun _ _ _ h => h) (Or.inl ⟨by rfl, ?_⟩) (by assumption) ?_
        rotate_left
        · (intro wS hSw; (try dsimp only at hSw); go_simp); all_goals with_reducible rfl
        try simp only [Act.put, List.setIfInBounds_toArray, List.set_cons_zero, List.set_cons_succ]
        refine wpAnyH_take (i := 2) (oi := ⟨_, _, _, _, _, _⟩) (v := ?_) rfl (by kernel_rfl) (by kernel_rfl) (by kernel_rfl) (fun _ _ _ h => h) (Or.inl ⟨by rfl, ?_⟩) (by assumption) ?_
        rotate_left
        · (intro wS hSw; (try dsimp only at hSw); go_simp); all_goals with_reducible rfl
        try simp only [Act.put, List.setIfInBounds_toArray, List.set_cons_zero, List.set_cons_succ]
        refine wpAnyH_take (i := 3) (oi := ⟨_, _, _, _, _, _⟩) (v := ?_) rfl (by kernel_rfl) (by kernel_rfl) (by kernel_rfl) (fun _ _ _ h => h) (Or.inl ⟨by rfl, ?_⟩) (by assumption) ?_
        rotate_left
        · (intro wS hSw; (try dsimp only at hSw); go_simp); all_goals with_reducible rfl
        try simp only [Act.put, List.setIfInBounds_toArray, List.set_cons_zero, List.set_cons_succ]
        refine wpAnyH_take (i := 4) (oi := ⟨_, _, _, _, _, _⟩) (v := ?_) rfl (by kernel_rfl) (by kernel_rfl) (by kernel_rfl) (fun _ _ _ h => h) (Or.inl ⟨by rfl, ?_⟩) (by assumption) ?_
        rotate_left
        · (intro wS hSw; (try dsimp only at hSw); go_simp); all_goals with_reducible rfl
        try simp only [Act.put, List.setIfInBounds_toArray, List.set_cons_zero, List.set_cons_succ]
        refine wpAnyH_take (i := 5) (oi := ⟨_, _, _, _, _, _⟩) (v := ?_) rfl (by kernel_rfl) (by kernel_rfl) (by kernel_rfl) (fun _ _ _ h => h) (Or.inl ⟨by rfl, ?_⟩) (by assumption) ?_
        rotate_left
        · (intro wS hSw; (try dsimp only at hSw); go_simp); all_goals with_reducible rfl
        try simp only [Act.put, List.setIfInBounds_toArray, List.set_cons_zero, List.set_cons_succ]
        refine wpAnyH_take (i := 6) (oi := ⟨_, _, _, _, _, _⟩) (v := ?_) rfl (by kernel_rfl) (by kernel_rfl) (by kernel_rfl) (fun _ _ _ h => h) (Or.inl ⟨by rfl, ?_⟩) (by assumption) ?_
        rotate_left
        · (intro wS hSw; (try dsimp only at hSw); go_simp); all_goals with_reducible rfl
        try simp only [Act.put, List.setIfInBounds_toArray, List.set_cons_zero, List.set_cons_succ]
        refine wpAnyH_take (i := 7) (oi := ⟨_, _, _, _, _, _⟩) (v := ?_) rfl (by kernel_rfl) (by kernel_rfl) (by kernel_rfl) (fun _ _ _ h => h) (Or.inl ⟨by rfl, ?_⟩) (by assumption) ?_
        rotate_left
        · (intro wS hSw; (try dsimp only at hSw); go_simp); all_goals with_reducible rfl
        try simp only [Act.put, List.setIfInBounds_toArray, List.set_cons_zero, List.set_cons_succ]
        refine wpAnyH_take (i := 8) (oi := ⟨_, _, _, _, _, _⟩) (v := ?_) rfl (by kernel_rfl) (by kernel_rfl) (by kernel_rfl) (fun _ _ _ h => h) (Or.inl ⟨by rfl, ?_⟩) (by assumption) ?_
        rotate_left
        · (intro wS hSw; (try dsimp only at hSw); go_simp); all_goals with_reducible rfl
        try simp only [Act.put, List.setIfInBounds_toArray, List.set_cons_zero, List.set_cons_succ]
        refine wpAnyH_take (i := 9) (oi := ⟨_, _, _, _, _, _⟩) (v := ?_) rfl (by kernel_rfl) (by kernel_rfl) (by kernel_rfl) (fun _ _ _ h => h) (Or.inl ⟨by rfl, ?_⟩) (by assumption) ?_
        rotate_left
        · (intro wS hSw; (try dsimp only at hSw); go_simp); all_goals with_reducible rfl
        try simp only [Act.put, List.setIfInBounds_toArray, List.set_cons_zero, List.set_cons_succ]
        refine wpAnyH_take (i := 10) (oi := ⟨_, _, _, _, _, _⟩) (v := ?_) rfl (by kernel_rfl) (by kernel_rfl) (by kernel_rfl) (fun _ _ _ h => h) (Or.inl ⟨by rfl, ?_⟩) (by assumption) ?_
        rotate_left
        · (intro wS hSw; (try dsimp only at hSw); go_simp); all_goals with_reducible rfl
        try simp only [Act.put, List.setIfInBounds_toArray, List.set_cons_zero, List.set_cons_succ]
        refine wpAnyH_done (by kernel_rfl) ?_ _
        clear hHeld d1
        go_wp2_with fail
        go_roundw
        case rel => exact ⟨n + 1, by omega, by omega, by go_num, HIN, hbel.drew⟩
        case measure => simp [intOf]; omega
      · rw [if_neg hc] at hin'
        have HIN : Hid (n = E) := by show _ = _; rw [← hin']; rfl
        have d1 : decide (y.level ≤ x.level) = true := by simpa using hc
        clear hin' hc
        go_wp2_with fail
        refine wp_region_held_drew (S := fun w' => w'.cell? (ad.add (k * 5)) = some (.int .i64 x.level) ∧ w'.cell? (ad.add (n * 5)) = some (.int .i64 y.level)) (by kernel_rfl) HS.out (fun hHeld => ?_)
        refine wpAnyH_take (i := 0) (oi := ⟨_, _, _, _, _, _⟩) (v := ?_) rfl (by kernel_rfl) (by kernel_rfl) (by kernel_rfl) (fun _ _ _ h => h) (Or.inl ⟨by rfl, ?_⟩) (by assumption) ?_
        rotate_left
        · (intro wS hSw; (try dsimp only at hSw); go_simp); all_goals with_reducible rfl
        try simp only [Act.put, List.setIfInBounds_toArray, List.set_cons_zero, List.set_cons_succ]
        refine wpAnyH_take (i := 1) (oi := ⟨_, _, _, _, _, _⟩) (v := ?_) rfl (by kernel_rfl) (by kernel_rfl) (by kernel_rfl) (fun _ _ _ h => h) (Or.inl ⟨by rfl, ?_⟩) (by assumption) ?_
        rotate_left
        · (intro wS hSw; (try dsimp only at hSw); go_simp); all_goals with_reducible rfl
        try simp only [Act.put, List.setIfInBounds_toArray, List.set_cons_zero, List.set_cons_succ]
        refine wpAnyH_take (i := 2) (oi := ⟨_, _, _, _, _, _⟩) (v := ?_) rfl (by kernel_rfl) (by kernel_rfl) (by kernel_rfl) (fun _ _ _ h => h) (Or.inl ⟨by rfl, ?_⟩) (by assumption) ?_
        rotate_left
        · (intro wS hSw; (try dsimp only at hSw); go_simp); all_goals with_reducible rfl
        try simp only [Act.put, List.setIfInBounds_toArray, List.set_cons_zero, List.set_cons_succ]
        refine wpAnyH_take (i := 3) (oi := ⟨_, _, _, _, _, _⟩) (v := ?_) rfl (by kernel_rfl) (by kernel_rfl) (by kernel_rfl) (fun _ _ _ h => h) (Or.inl ⟨by rfl, ?_⟩) (by assumption) ?_
        rotate_left
        · (intro wS hSw; (try dsimp only at hSw); go_simp); all_goals with_reducible rfl
        try simp only [Act.put, List.setIfInBounds_toArray, List.set_cons_zero, List.set_cons_succ]
        refine wpAnyH_take (i := 4) (oi := ⟨_, _, _, _, _, _⟩) (v := ?_) rfl (by kernel_rfl) (by kernel_rfl) (by kernel_rfl) (fun _ _ _ h => h) (Or.inl ⟨by rfl, ?_⟩) (by assumption) ?_
        rotate_left
        · (intro wS hSw; (try dsimp only at hSw); go_simp); all_goals with_reducible rfl
        try simp only [Act.put, List.setIfInBounds_toArray, List.set_cons_zero, List.set_cons_succ]
        refine wpAnyH_take (i := 5) (oi := ⟨_, _, _, _, _, _⟩) (v := ?_) rfl (by kernel_rfl) (by kernel_rfl) (by kernel_rfl) (fun _ _ _ h => h) (Or.inl ⟨by rfl, ?_⟩) (by assumption) ?_
        rotate_left
        · (intro wS hSw; (try dsimp only at hSw); go_simp); all_goals with_reducible rfl
        try simp only [Act.put, List.setIfInBounds_toArray, List.set_cons_zero, List.set_cons_succ]
        refine wpAnyH_take (i := 6) (oi := ⟨_, _, _, _, _, _⟩) (v := ?_) rfl (by kernel_rfl) (by kernel_rfl) (by kernel_rfl) (fun _ _ _ h => h) (Or.inl ⟨by rfl, ?_⟩) (by assumption) ?_
        rotate_left
        · (intro wS hSw; (try dsimp only at hSw); go_simp); all_goals with_reducible rfl
        try simp only [Act.put, List.setIfInBounds_toArray, List.set_cons_zero, List.set_cons_succ]
        refine wpAnyH_take (i := 7) (oi := ⟨_, _, _, _, _, _⟩) (v := ?_) rfl (by kernel_rfl) (by kernel_rfl) (by kernel_rfl) (fun _ _ _ h => h) (Or.inl ⟨by rfl, ?_⟩) (by assumption) ?_
        rotate_left
        · (intro wS hSw; (try dsimp only at hSw); go_simp); all_goals with_reducible rfl
        try simp only [Act.put, List.setIfInBounds_toArray, List.set_cons_zero, List.set_cons_succ]
        refine wpAnyH_take (i := 8) (oi := ⟨_, _, _, _, _, _⟩) (v := ?_) rfl (by kernel_rfl) (by kernel_rfl) (by kernel_rfl) (fun _ _ _ h => h) (Or.inl ⟨by rfl, ?_⟩) (by assumption) ?_
        rotate_left
        · (intro wS hSw; (try dsimp only at hSw); go_simp); all_goals with_reducible rfl
        try simp only [Act.put, List.setIfInBounds_toArray, List.set_cons_zero, List.set_cons_succ]
        refine wpAnyH_take (i := 9) (oi := ⟨_, _, _, _, _, _⟩) (v := ?_) rfl (by kernel_rfl) (by kernel_rfl) (by kernel_rfl) (fun _ _ _ h => h) (Or.inl ⟨by rfl, ?_⟩) (by assumption) ?_
        rotate_left
        · (intro wS hSw; (try dsimp only at hSw); go_simp); all_goals with_reducible rfl
        try simp only [Act.put, List.setIfInBounds_toArray, List.set_cons_zero, List.set_cons_succ]
        refine wpAnyH_take (i := 10) (oi := ⟨_, _, _, _, _, _⟩) (v := ?_) rfl (by kernel_rfl) (by kernel_rfl) (by kernel_rfl) (fun _ _ _ h => h) (Or.inl ⟨by rfl, ?_⟩) (by assumption) ?_
        rotate_left
        · (intro wS hSw; (try dsimp only at hSw); go_simp); all_goals with_reducible rfl
        try simp only [Act.put, List.setIfInBounds_toArray, List.set_cons_zero, List.set_cons_succ]
        refine wpAnyH_done (by kernel_rfl) ?_ _
        clear hHeld d1
        go_wp2_with fail
        go_ret
        exact ⟨by rw [← HIN.out]; rfl, hbel.drew⟩
    · have HIN : Hid (l.length = E) := by
        show _ = _
        rw [← hin.out, List.drop_eq_nil_of_le (by omega)]
        show l.length = n + 0
        omega
      clear hin hx0
      go_wp2_with fail
      go_ret
      exact ⟨by rw [← HIN.out]; rfl, hbel⟩

set_option maxRecDepth 100000 in
set_option maxHeartbeats 1000000 in
theorem REnd_all (l : List ItemD) (A : Option Addr) (c : Nat) (k : Int) (w : World) (hA : ItemsAt w w.heap.size A l) (hl : l.length ≤ 1000000000) :
    Calls Try.prog 28 #[.slice A l.length c, .int .i64 k] w (Ret w (.int .i64 (endL l k))) := by
  by_cases h0 : k < 0
  · have e : endL l k = 0 := by unfold endL; rw [if_pos (.inl h0)]
    rw [e]
    clear hA e
    go_enter Try.func28, Try.ntmps28
    go_wp2_with fail
    go_ret
    exact ⟨rfl, Below.refl _ _⟩
  · by_cases h1 : (l.length : Int) ≤ k
    · have e : endL l k = 0 := by unfold endL; rw [if_pos (.inr h1)]
      rw [e]
      clear hA e
      go_enter Try.func28, Try.ntmps28
      go_wp2_with fail
      go_ret
      exact ⟨rfl, Below.refl _ _⟩
    · obtain ⟨n, rfl⟩ : ∃ n : Nat, k = n := ⟨k.toNat, by omega⟩
      have hn : n < l.length := by omega
      obtain ⟨ad, rfl, _⟩ := hA (by omega)
      have e : endL l n = (endN l n : Nat) := by unfold endL; rw [if_neg (by omega)]; rfl
      rw [e]
      exact REnd_in l ad c n l[n] w hA (List.getElem?_eq_getElem hn) hl _ rfl

theorem parN_step {l : List ItemD} {c : Int} {n : Nat} {y : ItemD} (hy : l[n]? = some y) : parN l c (n + 1) = if y.level < c then (n : Int) else parN l c n := by rw [parN, hy]

set_option maxRecDepth 100000 in
set_option maxHeartbeats 2000000 in
theorem Parent_in (l : List ItemD) (ad : Addr) (c k : Nat) (x : ItemD) (w : World) (hA : ItemsAt w w.heap.size (some ad) l) (hx : l[k]? = some x) (hl : l.length ≤ 1000000000) (E : Int) (hE : Hid (parN l x.level k = E)) :
    Calls Try.prog 29 #[.slice (some ad) l.length c, .int .i64 k] w (Ret w (.int .i64 E)) := by
  have hk : k < l.length := (List.getElem?_eq_some_iff.1 hx).1
  have HA := Lib.hid hA
  obtain ⟨hb, _, _, _, _, hx0, _⟩ := hA.item hx
  clear hA hx
  have i0 : (0 : Int) ≤ (k : Int) := by omega
  have i1 : (k : Int) < l.length := by omega
  have t0 : decide ((k : Int) < 0) = false := by simp
  have t1 : decide ((l.length : Int) ≤ k) = false := by simp; omega
  have t2 : decide (l.length ≤ k) = false := by simp; omega
  have HX0 := Lib.hid hx0
  clear hx0
  go_enter Try.func29, Try.ntmps29
  go_wp2_with fail
  clear t0 t1 t2
  go_loopw [5] (fun i wr => ∃ (n : Nat), n ≤ k ∧ i = .int .i64 ((n : Int) - 1) ∧ Hid (parN l x.level n = E) ∧ Below w.heap.size w wr) (fun i _ => (intOf i + 1).toNat)
  case atStart => exact ⟨k, Nat.le_refl _, by go_num, hE, Below.refl _ _⟩
  case round =>
    obtain ⟨n, hkn, rfl, hin, hbel⟩ := hrel
    have hx0 : wr.drew.cell? (ad.add (k * 5)) = some (.int .i64 x.level) := (hbel.drew.cell (by rw [block_of_add]; exact hb)).trans HX0.out
    cases n with
    | zero =>
      have HIN : Hid (E = -1) := by show _ = _; rw [← hin.out]; rfl
      clear hin hx0
      go_wp2_with fail
      go_ret
      exact ⟨by rw [HIN.out]; rfl, hbel⟩
    | succ n =>
      have hlt : n < l.length := by omega
      obtain ⟨y, hy⟩ : ∃ y, Hid (l[n]? = some y) := ⟨l[n], List.getElem?_eq_getElem _⟩
      obtain ⟨_, _, _, _, _, hy0, _⟩ := HA.out.item hy.out
      have hy0' : wr.drew.cell? (ad.add (n * 5)) = some (.int .i64 y.level) := (hbel.drew.cell (by rw [block_of_add]; exact hb)).trans hy0
      have hin' := hin.out
      rw [parN_step hy.out] at hin'
      have j0 : (0 : Int) ≤ (n : Int) := by omega
      have j1 : (n : Int) < l.length := by omega
      have je : ((n + 1 : Nat) : Int) - 1 = (n : Int) := by omega
      rw [je]
      have HS : Hid (wr.drew.cell? (ad.add (k * 5)) = some (.int .i64 x.level) ∧ wr.drew.cell? (ad.add (n * 5)) = some (.int .i64 y.level)) := ⟨hx0, hy0'⟩
      clear hx0 hy0 hy0' hin je
      by_cases hc : y.level < x.level
      · rw [if_pos hc] at hin'
        have HIN : Hid ((n : Int) = E) := hin'
        have d1 : decide (y.level < x.level) = true := by simpa using hc
        clear hin' hc
        go_wp2_with fail
        refine wp_region_held_drew (S := fun w' => w'.cell? (ad.add (k * 5)) = some (.int .i64 x.level) ∧ w'.cell? (ad.add (n * 5)) = some (.int .i64 y.level)) (by kernel_rfl) HS.out (fun hHeld => ?_)
        refine wpAnyH_take (i := 0) (oi := ⟨_, _, _, _, _, _⟩) (v := ?_) rfl (by kernel_rfl) (by kernel_rfl) (by kernel_rfl) (fun _ _ _ h => h) (Or.inl ⟨by rfl, ?_⟩) (by assumption) ?_
        rotate_left
        · (intro wS hSw; (try dsimp only at hSw); go_simp); all_goals with_reducible rfl
        try simp only [Act.put, List.setIfInBounds_toArray, List.set_cons_zero, List.set_cons_succ]
        refine wpAnyH_take (i := 1) (oi := ⟨_, _, _, _, _, _⟩) (v := ?_) rfl (by kernel_rfl) (by kernel_rfl) (by kernel_rfl) (fun _ _ _ h => h) (Or.inl ⟨by rfl, ?_⟩) (by assumption) ?_
        rotate_left
        · (intro wS hSw; (try dsimp only at hSw); go_simp); all_goals with_reducible rfl
        try simp only [Act.put, List.setIfInBounds_toArray, List.set_cons_zero, List.set_cons_succ]
        refine wpAnyH_take (i := 2) (oi := ⟨_, _, _, _, _, _⟩) (v := ?_) rfl (by kernel_rfl) (by kernel_rfl) (by kernel_rfl) (fun _ _ _ h => h) (Or.inl ⟨by rfl, ?_⟩) (by assumption) ?_
        rotate_left
        · (intro wS hSw; (try dsimp only at hSw); go_simp); all_goals with_reducible rfl
        try simp only [Act.put, List.setIfInBounds_toArray, List.set_cons_zero, List.set_cons_succ]
        refine wpAnyH_take (i := 3) (oi := ⟨_, _, _, _, _, _⟩) (v := ?_) rfl (by kernel_rfl) (by kernel_rfl) (by kernel_rfl) (fun _ _ _ h => h) (Or.inl ⟨by rfl, ?_⟩) (by assumption) ?_
        rotate_left
        · (intro wS hSw; (try dsimp only at hSw); go_simp); all_goals with_reducible rfl
        try simp only [Act.put, List.setIfInBounds_toArray, List.set_cons_zero, List.set_cons_succ]
        refine wpAnyH_take (i := 4) (oi := ⟨_, _, _, _, _, _⟩) (v := ?_) rfl (by kernel_rfl) (by kernel_rfl) (by kernel_rfl) (fun _ _ _ h => h) (Or.inl ⟨by rfl, ?_⟩) (by assumption) ?_
        rotate_left
        · (intro wS hSw; (try dsimp only at hSw); go_simp); all_goals with_reducible rfl
        try simp only [Act.put, List.setIfInBounds_toArray, List.set_cons_zero, List.set_cons_succ]
        refine wpAnyH_take (i := 5) (oi := ⟨_, _, _, _, _, _⟩) (v := ?_) rfl (by kernel_rfl) (by kernel_rfl) (by kernel_rfl) (fun _ _ _ h => h) (Or.inl ⟨by rfl, ?_⟩) (by assumption) ?_
        rotate_left
        · (intro wS hSw; (try dsimp only at hSw); go_simp); all_goals with_reducible rfl
        try simp only [Act.put, List.setIfInBounds_toArray, List.set_cons_zero, List.set_cons_succ]
        refine wpAnyH_take (i := 6) (oi := ⟨_, _, _, _, _, _⟩) (v := ?_) rfl (by kernel_rfl) (by kernel_rfl) (by kernel_rfl) (fun _ _ _ h => h) (Or.inl ⟨by rfl, ?_⟩) (by assumption) ?_
        rotate_left
        · (intro wS hSw; (try dsimp only at hSw); go_simp); all_goals with_reducible rfl
        try simp only [Act.put, List.setIfInBounds_toArray, List.set_cons_zero, List.set_cons_succ]
        refine wpAnyH_take (i := 7) (oi := ⟨_, _, _, _, _, _⟩) (v := ?_) rfl (by kernel_rfl) (by kernel_rfl) (by kernel_rfl) (fun _ _ _ h => h) (Or.inl ⟨by rfl, ?_⟩) (by assumption) ?_
        rotate_left
        · (intro wS hSw; (try dsimp only at hSw); go_simp); all_goals with_reducible rfl
        try simp only [Act.put, List.setIfInBounds_toArray, List.set_cons_zero, List.set_cons_succ]
        refine wpAnyH_take (i := 8) (oi := ⟨_, _, _, _, _, _⟩) (v := ?_) rfl (by kernel_rfl) (by kernel_rfl) (by kernel_rfl) (fun _ _ _ h => h) (Or.inl ⟨by rfl, ?_⟩) (by assumption) ?_
        rotate_left
        · (intro wS hSw; (try dsimp only at hSw); go_simp); all_goals with_reducible rfl
        try simp only [Act.put, List.setIfInBounds_toArray, List.set_cons_zero, List.set_cons_succ]
        refine wpAnyH_take (i := 9) (oi := ⟨_, _, _, _, _, _⟩) (v := ?_) rfl (by kernel_rfl) (by kernel_rfl) (by kernel_rfl) (fun _ _ _ h => h) (Or.inl ⟨by rfl, ?_⟩) (by assumption) ?_
        rotate_left
        · (intro wS hSw; (try dsimp only at hSw); go_simp); all_goals with_reducible rfl
        try simp only [Act.put, List.setIfInBounds_toArray, List.set_cons_zero, List.set_cons_succ]
        refine wpAnyH_take (i := 10) (oi := ⟨_, _, _, _, _, _⟩) (v := ?_) rfl (by kernel_rfl) (by kernel_rfl) (by kernel_rfl) (fun _ _ _ h => h) (Or.inl ⟨by rfl, ?_⟩) (by assumption) ?_
        rotate_left
        · (intro wS hSw; (try dsimp only at hSw); go_simp); all_goals with_reducible rfl
        try simp only [Act.put, List.setIfInBounds_toArray, List.set_cons_zero, List.set_cons_succ]
        refine wpAnyH_done (by kernel_rfl) ?_ _
        clear hHeld d1
        go_wp2_with fail
        go_ret
        exact ⟨by rw [← HIN.out]; rfl, hbel.drew⟩
      · rw [if_neg hc] at hin'
        have HIN : Hid (parN l x.level n = E) := hin'
        have d1 : decide (y.level < x.level) = false := by simpa using hc
        clear hin' hc
        go_wp2_with fail
        refine wp_region_held_drew (S := fun w' => w'.cell? (ad.add (k * 5)) = some (.int .i64 x.level) ∧ w'.cell? (ad.add (n * 5)) = some (.int .i64 y.level)) (by kernel_rfl) HS.out (fun hHeld => ?_)
        refine wpAnyH_take (i := 0) (oi := ⟨_, _, _, _, _, _⟩) (v := ?_) rfl (by kernel_rfl) (by kernel_rfl) (by kernel_rfl) (fun _ _ _ h => h) (Or.inl ⟨by rfl, ?_⟩) (by assumption) ?_
        rotate_left
        · (intro wS hSw; (try dsimp only at hSw); go_simp); all_goals with_reducible rfl
        try simp only [Act.put, List.setIfInBounds_toArray, List.set_cons_zero, List.set_cons_succ]
        refine wpAnyH_take (i := 1) (oi := ⟨_, _, _, _, _, _⟩) (v := ?_) rfl (by kernel_rfl) (by kernel_rfl) (by kernel_rfl) (fun _ _ _ h => h) (Or.inl ⟨by rfl, ?_⟩) (by assumption) ?_
        rotate_left
        · (intro wS hSw; (try dsimp only at hSw); go_simp); all_goals with_reducible rfl
        try simp only [Act.put, List.setIfInBounds_toArray, List.set_cons_zero, List.set_cons_succ]
        refine wpAnyH_take (i := 2) (oi := ⟨_, _, _, _, _, _⟩) (v := ?_) rfl (by kernel_rfl) (by kernel_rfl) (by kernel_rfl) (fun _ _ _ h => h) (Or.inl ⟨by rfl, ?_⟩) (by assumption) ?_
        rotate_left
        · (intro wS hSw; (try dsimp only at hSw); go_simp); all_goals with_reducible rfl
        try simp only [Act.put, List.setIfInBounds_toArray, List.set_cons_zero, List.set_cons_succ]
        refine wpAnyH_take (i := 3) (oi := ⟨_, _, _, _, _, _⟩) (v := ?_) rfl (by kernel_rfl) (by kernel_rfl) (by kernel_rfl) (fun _ _ _ h => h) (Or.inl ⟨by rfl, ?_⟩) (by assumption) ?_
        rotate_left
        · (intro wS hSw; (try dsimp only at hSw); go_simp); all_goals with_reducible rfl
        try simp only [Act.put, List.setIfInBounds_toArray, List.set_cons_zero, List.set_cons_succ]
        refine wpAnyH_take (i := 4) (oi := ⟨_, _, _, _, _, _⟩) (v := ?_) rfl (by kernel_rfl) (by kernel_rfl) (by kernel_rfl) (fun _ _ _ h => h) (Or.inl ⟨by rfl, ?_⟩) (by assumption) ?_
        rotate_left
        · (intro wS hSw; (try dsimp only at hSw); go_simp); all_goals with_reducible rfl
        try simp only [Act.put, List.setIfInBounds_toArray, List.set_cons_zero, List.set_cons_succ]
        refine wpAnyH_take (i := 5) (oi := ⟨_, _, _, _, _, _⟩) (v := ?_) rfl (by kernel_rfl) (by kernel_rfl) (by kernel_rfl) (fun _ _ _ h => h) (Or.inl ⟨by rfl, ?_⟩) (by assumption) ?_
        rotate_left
        · (intro wS hSw; (try dsimp only at hSw); go_simp); all_goals with_reducible rfl
        try simp only [Act.put, List.setIfInBounds_toArray, List.set_cons_zero, List.set_cons_succ]
        refine wpAnyH_take (i := 6) (oi := ⟨_, _, _, _, _, _⟩) (v := ?_) rfl (by kernel_rfl) (by kernel_rfl) (by kernel_rfl) (fun _ _ _ h => h) (Or.inl ⟨by rfl, ?_⟩) (by assumption) ?_
        rotate_left
        · (intro wS hSw; (try dsimp only at hSw); go_simp); all_goals with_reducible rfl
        try simp only [Act.put, List.setIfInBounds_toArray, List.set_cons_zero, List.set_cons_succ]
        refine wpAnyH_take (i := 7) (oi := ⟨_, _, _, _, _, _⟩) (v := ?_) rfl (by kernel_rfl) (by kernel_rfl) (by kernel_rfl) (fun _ _ _ h => h) (Or.inl ⟨by rfl, ?_⟩) (by assumption) ?_
        rotate_left
        · (intro wS hSw; (try dsimp only at hSw); go_simp); all_goals with_reducible rfl
        try simp only [Act.put, List.setIfInBounds_toArray, List.set_cons_zero, List.set_cons_succ]
        refine wpAnyH_take (i := 8) (oi := ⟨_, _, _, _, _, _⟩) (v := ?_) rfl (by kernel_rfl) (by kernel_rfl) (by kernel_rfl) (fun _ _ _ h => h) (Or.inl ⟨by rfl, ?_⟩) (by assumption) ?_
        rotate_left
        · (intro wS hSw; (try dsimp only at hSw); go_simp); all_goals with_reducible rfl
        try simp only [Act.put, List.setIfInBounds_toArray, List.set_cons_zero, List.set_cons_succ]
        refine wpAnyH_take (i := 9) (oi := ⟨_, _, _, _, _, _⟩) (v := ?_) rfl (by kernel_rfl) (by kernel_rfl) (by kernel_rfl) (fun _ _ _ h => h) (Or.inl ⟨by rfl, ?_⟩) (by assumption) ?_
        rotate_left
        · (intro wS hSw; (try dsimp only at hSw); go_simp); all_goals with_reducible rfl
        try simp only [Act.put, List.setIfInBounds_toArray, List.set_cons_zero, List.set_cons_succ]
        refine wpAnyH_take (i := 10) (oi := ⟨_, _, _, _, _, _⟩) (v := ?_) rfl (by kernel_rfl) (by kernel_rfl) (by kernel_rfl) (fun _ _ _ h => h) (Or.inl ⟨by rfl, ?_⟩) (by assumption) ?_
        rotate_left
        · (intro wS hSw; (try dsimp only at hSw); go_simp); all_goals with_reducible rfl
        try simp only [Act.put, List.setIfInBounds_toArray, List.set_cons_zero, List.set_cons_succ]
        refine wpAnyH_done (by kernel_rfl) ?_ _
        clear hHeld d1
        go_wp2_with fail
        go_roundw
        case rel => exact ⟨n, by omega, by go_num, HIN, hbel.drew⟩
        case measure => simp [intOf]

set_option maxRecDepth 100000 in
set_option maxHeartbeats 1000000 in
theorem Parent_all (l : List ItemD) (A : Option Addr) (c : Nat) (k : Int) (w : World) (hA : ItemsAt w w.heap.size A l) (hl : l.length ≤ 1000000000) :
    Calls Try.prog 29 #[.slice A l.length c, .int .i64 k] w (Ret w (.int .i64 (parL l k))) := by
  by_cases h0 : k < 0
  · have e : parL l k = -1 := by unfold parL; rw [if_pos (.inl h0)]
    rw [e]
    clear hA e
    go_enter Try.func29, Try.ntmps29
    go_wp2_with fail
    go_ret
    exact ⟨rfl, Below.refl _ _⟩
  · by_cases h1 : (l.length : Int) ≤ k
    · have e : parL l k = -1 := by unfold parL; rw [if_pos (.inr h1)]
      rw [e]
      clear hA e
      go_enter Try.func29, Try.ntmps29
      go_wp2_with fail
      go_ret
      exact ⟨rfl, Below.refl _ _⟩
    · obtain ⟨n, rfl⟩ : ∃ n : Nat, k = n := ⟨k.toNat, by omega⟩
      have hn : n < l.length := by omega
      obtain ⟨ad, rfl, _⟩ := hA (by omega)
      have hx : l[n]? = some l[n] := List.getElem?_eq_getElem hn
      have e : parL l n = parN l l[n].level n := by
        unfold parL
        rw [if_neg (by omega)]
        show (match l[n]? with | some x => _ | none => _) = _
        rw [hx, Int.toNat_natCast]
      rw [e]
      exact Parent_in l ad c n l[n] w hA hx hl _ rfl

set_option maxRecDepth 100000 in
set_option maxHeartbeats 2000000 in
theorem RParent_in (l : List ItemD) (ad : Addr) (c k : Nat) (x : ItemD) (w : World) (hA : ItemsAt w w.heap.size (some ad) l) (hx : l[k]? = some x) (hl : l.length ≤ 1000000000) (E : Int) (hE : Hid (parN l x.level k = E)) :
    Calls Try.prog 30 #[.slice (some ad) l.length c, .int .i64 k] w (Ret w (.int .i64 E)) := by
  have hk : k < l.length := (List.getElem?_eq_some_iff.1 hx).1
  have HA := Lib.hid hA
  obtain ⟨hb, _, _, _, _, hx0, _⟩ := hA.item hx
  clear hA hx
  have i0 : (0 : Int) ≤ (k : Int) := by omega
  have i1 : (k : Int) < l.length := by omega
  have HX0 := Lib.hid hx0
  clear hx0
  go_enter Try.func30, Try.ntmps30
  go_wp2_with fail
  go_loopw [5, 6] (fun o i wr => ∃ (n : Nat), n ≤ k ∧ o = .int .i64 (parN l x.level n) ∧ i = .int .i64 (n : Int) ∧ Below w.heap.size w wr) (fun _ i _ => k - (intOf i).toNat)
  case atStart => exact ⟨0, Nat.zero_le _, rfl, rfl, Below.refl _ _⟩
  case round =>
    obtain ⟨n, hkn, rfl, rfl, hbel⟩ := hrel
    obtain ⟨P, hP⟩ : ∃ P, Hid (parN l x.level n = P) := ⟨_, rfl⟩
    rw [hP.out]
    by_cases hlt : n < k
    · have hx0 : wr.drew.cell? (ad.add (k * 5)) = some (.int .i64 x.level) := (hbel.drew.cell (by rw [block_of_add]; exact hb)).trans HX0.out
      have hlt' : n < l.length := by omega
      obtain ⟨y, hy⟩ : ∃ y, Hid (l[n]? = some y) := ⟨l[n], List.getElem?_eq_getElem _⟩
      obtain ⟨_, _, _, _, _, hy0, _⟩ := HA.out.item hy.out
      have hy0' : wr.drew.cell? (ad.add (n * 5)) = some (.int .i64 y.level) := (hbel.drew.cell (by rw [block_of_add]; exact hb)).trans hy0
      have hst := Lib.hid (parN_step (c := x.level) hy.out)
      have j0 : (0 : Int) ≤ (n : Int) := by omega
      have j1 : (n : Int) < l.length := by omega
      have j2 : (n : Int) < k := by omega
      have HS : Hid (wr.drew.cell? (ad.add (k * 5)) = some (.int .i64 x.level) ∧ wr.drew.cell? (ad.add (n * 5)) = some (.int .i64 y.level)) := ⟨hx0, hy0'⟩
      clear hx0 hy0 hy0'
      by_cases hc : y.level < x.level
      · have HIN : Hid (parN l x.level (n + 1) = n) := by show _ = _; rw [hst.out, if_pos hc]
        have d1 : decide (y.level < x.level) = true := by simpa using hc
        clear hc
        go_wp2_with fail
        refine wp_region_held_drew (S := fun w' => w'.cell? (ad.add (k * 5)) = some (.int .i64 x.level) ∧ w'.cell? (ad.add (n * 5)) = some (.int .i64 y.level)) (by kernel_rfl) HS.out (fun hHeld => ?_)
        refine wpAnyH_take (i := 0) (oi := ⟨_, _, _, _, _, _⟩) (v := ?_) rfl (by kernel_rfl) (by kernel_rfl) (by kernel_rfl) (fun _ _ _ h => h) (Or.inl ⟨by rfl, ?_⟩) (by assumption) ?_
        rotate_left
        · (intro wS hSw; (try dsimp only at hSw); go_simp); all_goals with_reducible rfl
        try simp only [Act.put, List.setIfInBounds_toArray, List.set_cons_zero, List.set_cons_succ]
        refine wpAnyH_take (i := 1) (oi := ⟨_, _, _, _, _, _⟩) (v := ?_) rfl (by kernel_rfl) (by kernel_rfl) (by kernel_rfl) (fun _ _ _ h => h) (Or.inl ⟨by rfl, ?_⟩) (by assumption) ?_
        rotate_left
        · (intro wS hSw; (try dsimp only at hSw); go_simp); all_goals with_reducible rfl
        try simp only [Act.put, List.setIfInBounds_toArray, List.set_cons_zero, List.set_cons_succ]
        refine wpAnyH_take (i := 2) (oi := ⟨_, _, _, _, _, _⟩) (v := ?_) rfl (by kernel_rfl) (by kernel_rfl) (by kernel_rfl) (fun _ _ _ h => h) (Or.inl ⟨by rfl, ?_⟩) (by assumption) ?_
        rotate_left
        · (intro wS hSw; (try dsimp only at hSw); go_simp); all_goals with_reducible rfl
        try simp only [Act.put, List.setIfInBounds_toArray, List.set_cons_zero, List.set_cons_succ]
        refine wpAnyH_take (i := 3) (oi := ⟨_, _, _, _, _, _⟩) (v := ?_) rfl (by kernel_rfl) (by kernel_rfl) (by kernel_rfl) (fun _ _ _ h => h) (Or.inl ⟨by rfl, ?_⟩) (by assumption) ?_
        rotate_left
        · (intro wS hSw; (try dsimp only at hSw); go_simp); all_goals with_reducible rfl
        try simp only [Act.put, List.setIfInBounds_toArray, List.set_cons_zero, List.set_cons_succ]
        refine wpAnyH_take (i := 4) (oi := ⟨_, _, _, _, _, _⟩) (v := ?_) rfl (by kernel_rfl) (by kernel_rfl) (by kernel_rfl) (fun _ _ _ h => h) (Or.inl ⟨by rfl, ?_⟩) (by assumption) ?_
        rotate_left
        · (intro wS hSw; (try dsimp only at hSw); go_simp); all_goals with_reducible rfl
        try simp only [Act.put, List.setIfInBounds_toArray, List.set_cons_zero, List.set_cons_succ]
        refine wpAnyH_take (i := 5) (oi := ⟨_, _, _, _, _, _⟩) (v := ?_) rfl (by kernel_rfl) (by kernel_rfl) (by kernel_rfl) (fun _ _ _ h => h) (Or.inl ⟨by rfl, ?_⟩) (by assumption) ?_
        rotate_left
        · (intro wS hSw; (try dsimp only at hSw); go_simp); all_goals with_reducible rfl
        try simp only [Act.put, List.setIfInBounds_toArray, List.set_cons_zero, List.set_cons_succ]
        refine wpAnyH_take (i := 6) (oi := ⟨_, _, _, _, _, _⟩) (v := ?_) rfl (by kernel_rfl) (by kernel_rfl) (by kernel_rfl) (fun _ _ _ h => h) (Or.inl ⟨by rfl, ?_⟩) (by assumption) ?_
        rotate_left
        · (intro wS hSw; (try dsimp only at hSw); go_simp); all_goals with_reducible rfl
        try simp only [Act.put, List.setIfInBounds_toArray, List.set_cons_zero, List.set_cons_succ]
        refine wpAnyH_take (i := 7) (oi := ⟨_, _, _, _, _, _⟩) (v := ?_) rfl (by kernel_rfl) (by kernel_rfl) (by kernel_rfl) (fun _ _ _ h => h) (Or.inl ⟨by rfl, ?_⟩) (by assumption) ?_
        rotate_left
        · (intro wS hSw; (try dsimp only at hSw); go_simp); all_goals with_reducible rfl
        try simp only [Act.put, List.setIfInBounds_toArray, List.set_cons_zero, List.set_cons_succ]
        refine wpAnyH_take (i := 8) (oi := ⟨_, _, _, _, _, _⟩) (v := ?_) rfl (by kernel_rfl) (by kernel_rfl) (by kernel_rfl) (fun _ _ _ h => h) (Or.inl ⟨by rfl, ?_⟩) (by assumption) ?_
        rotate_left
        · (intro wS hSw; (try dsimp only at hSw); go_simp); all_goals with_reducible rfl
        try simp only [Act.put, List.setIfInBounds_toArray, List.set_cons_zero, List.set_cons_succ]
        refine wpAnyH_take (i := 9) (oi := ⟨_, _, _, _, _, _⟩) (v := ?_) rfl (by kernel_rfl) (by kernel_rfl) (by kernel_rfl) (fun _ _ _ h => h) (Or.inl ⟨by rfl, ?_⟩) (by assumption) ?_
        rotate_left
        · (intro wS hSw; (try dsimp only at hSw); go_simp); all_goals with_reducible rfl
        try simp only [Act.put, List.setIfInBounds_toArray, List.set_cons_zero, List.set_cons_succ]
        refine wpAnyH_take (i := 10) (oi := ⟨_, _, _, _, _, _⟩) (v := ?_) rfl (by kernel_rfl) (by kernel_rfl) (by kernel_rfl) (fun _ _ _ h => h) (Or.inl ⟨by rfl, ?_⟩) (by assumption) ?_
        rotate_left
        · (intro wS hSw; (try dsimp only at hSw); go_simp); all_goals with_reducible rfl
        try simp only [Act.put, List.setIfInBounds_toArray, List.set_cons_zero, List.set_cons_succ]
        refine wpAnyH_done (by kernel_rfl) ?_ _
        clear hHeld d1
        go_wp2_with fail
        go_roundw
        case rel => exact ⟨n + 1, by omega, by rw [HIN.out], by go_num, hbel.drew⟩
        case measure => simp [intOf]; omega
      · have HIN : Hid (parN l x.level (n + 1) = P) := by show _ = _; rw [hst.out, if_neg hc, hP.out]
        have d1 : decide (y.level < x.level) = false := by simpa using hc
        clear hc
        go_wp2_with fail
        refine wp_region_held_drew (S := fun w' => w'.cell? (ad.add (k * 5)) = some (.int .i64 x.level) ∧ w'.cell? (ad.add (n * 5)) = some (.int .i64 y.level)) (by kernel_rfl) HS.out (fun hHeld => ?_)
        refine wpAnyH_take (i := 0) (oi := ⟨_, _, _, _, _, _⟩) (v := ?_) rfl (by kernel_rfl) (by kernel_rfl) (by kernel_rfl) (fun _ _ _ h => h) (Or.inl ⟨by rfl, ?_⟩) (by assumption) ?_
        rotate_left
        · (intro wS hSw; (try dsimp only at hSw); go_simp); all_goals with_reducible rfl
        try simp only [Act.put, List.setIfInBounds_toArray, List.set_cons_zero, List.set_cons_succ]
        refine wpAnyH_take (i := 1) (oi := ⟨_, _, _, _, _, _⟩) (v := ?_) rfl (by kernel_rfl) (by kernel_rfl) (by kernel_rfl) (fun _ _ _ h => h) (Or.inl ⟨by rfl, ?_⟩) (by assumption) ?_
        rotate_left
        · (intro wS hSw; (try dsimp only at hSw); go_simp); all_goals with_reducible rfl
        try simp only [Act.put, List.setIfInBounds_toArray, List.set_cons_zero, List.set_cons_succ]
        refine wpAnyH_take (i := 2) (oi := ⟨_, _, _, _, _, _⟩) (v := ?_) rfl (by kernel_rfl) (by kernel_rfl) (by kernel_rfl) (fun _ _ _ h => h) (Or.inl ⟨by rfl, ?_⟩) (by assumption) ?_
        rotate_left
        · (intro wS hSw; (try dsimp only at hSw); go_simp); all_goals with_reducible rfl
        try simp only [Act.put, List.setIfInBounds_toArray, List.set_cons_zero, List.set_cons_succ]
        refine wpAnyH_take (i := 3) (oi := ⟨_, _, _, _, _, _⟩) (v := ?_) rfl (by kernel_rfl) (by kernel_rfl) (by kernel_rfl) (fun _ _ _ h => h) (Or.inl ⟨by rfl, ?_⟩) (by assumption) ?_
        rotate_left
        · (intro wS hSw; (try dsimp only at hSw); go_simp); all_goals with_reducible rfl
        try simp only [Act.put, List.setIfInBounds_toArray, List.set_cons_zero, List.set_cons_succ]
        refine wpAnyH_take (i := 4) (oi := ⟨_, _, _, _, _, _⟩) (v := ?_) rfl (by kernel_rfl) (by kernel_rfl) (by kernel_rfl) (fun _ _ _ h => h) (Or.inl ⟨by rfl, ?_⟩) (by assumption) ?_
        rotate_left
        · (intro wS hSw; (try dsimp only at hSw); go_simp); all_goals with_reducible rfl
        try simp only [Act.put, List.setIfInBounds_toArray, List.set_cons_zero, List.set_cons_succ]
        refine wpAnyH_take (i := 5) (oi := ⟨_, _, _, _, _, _⟩) (v := ?_) rfl (by kernel_rfl) (by kernel_rfl) (by kernel_rfl) (fun _ _ _ h => h) (Or.inl ⟨by rfl, ?_⟩) (by assumption) ?_
        rotate_left
        · (intro wS hSw; (try dsimp only at hSw); go_simp); all_goals with_reducible rfl
        try simp only [Act.put, List.setIfInBounds_toArray, List.set_cons_zero, List.set_cons_succ]
        refine wpAnyH_take (i := 6) (oi := ⟨_, _, _, _, _, _⟩) (v := ?_) rfl (by kernel_rfl) (by kernel_rfl) (by kernel_rfl) (fun _ _ _ h => h) (Or.inl ⟨by rfl, ?_⟩) (by assumption) ?_
        rotate_left
        · (intro wS hSw; (try dsimp only at hSw); go_simp); all_goals with_reducible rfl
        try simp only [Act.put, List.setIfInBounds_toArray, List.set_cons_zero, List.set_cons_succ]
        refine wpAnyH_take (i := 7) (oi := ⟨_, _, _, _, _, _⟩) (v := ?_) rfl (by kernel_rfl) (by kernel_rfl) (by kernel_rfl) (fun _ _ _ h => h) (Or.inl ⟨by rfl, ?_⟩) (by assumption) ?_
        rotate_left
        · (intro wS hSw; (try dsimp only at hSw); go_simp); all_goals with_reducible rfl
        try simp only [Act.put, List.setIfInBounds_toArray, List.set_cons_zero, List.set_cons_succ]
        refine wpAnyH_take (i := 8) (oi := ⟨_, _, _, _, _, _⟩) (v := ?_) rfl (by kernel_rfl) (by kernel_rfl) (by kernel_rfl) (fun _ _ _ h => h) (Or.inl ⟨by rfl, ?_⟩) (by assumption) ?_
        rotate_left
        · (intro wS hSw; (try dsimp only at hSw); go_simp); all_goals with_reducible rfl
        try simp only [Act.put, List.setIfInBounds_toArray, List.set_cons_zero, List.set_cons_succ]
        refine wpAnyH_take (i := 9) (oi := ⟨_, _, _, _, _, _⟩) (v := ?_) rfl (by kernel_rfl) (by kernel_rfl) (by kernel_rfl) (fun _ _ _ h => h) (Or.inl ⟨by rfl, ?_⟩) (by assumption) ?_
        rotate_left
        · (intro wS hSw; (try dsimp only at hSw); go_simp); all_goals with_reducible rfl
        try simp only [Act.put, List.setIfInBounds_toArray, List.set_cons_zero, List.set_cons_succ]
        refine wpAnyH_take (i := 10) (oi := ⟨_, _, _, _, _, _⟩) (v := ?_) rfl (by kernel_rfl) (by kernel_rfl) (by kernel_rfl) (fun _ _ _ h => h) (Or.inl ⟨by rfl, ?_⟩) (by assumption) ?_
        rotate_left
        · (intro wS hSw; (try dsimp only at hSw); go_simp); all_goals with_reducible rfl
        try simp only [Act.put, List.setIfInBounds_toArray, List.set_cons_zero, List.set_cons_succ]
        refine wpAnyH_done (by kernel_rfl) ?_ _
        clear hHeld d1
        go_wp2_with fail
        go_roundw
        case rel => exact ⟨n + 1, by omega, by rw [HIN.out], by go_num, hbel.drew⟩
        case measure => simp [intOf]; omega
    · have HIN : Hid (P = E) := by
        show _ = _
        rw [← hP.out, ← hE.out, show n = k by omega]
      have j2 : (k : Int) ≤ n := by omega
      go_wp2_with fail
      go_ret
      exact ⟨by rw [← HIN.out]; rfl, hbel⟩

set_option maxRecDepth 100000 in
set_option maxHeartbeats 1000000 in
theorem RParent_all (l : List ItemD) (A : Option Addr) (c : Nat) (k : Int) (w : World) (hA : ItemsAt w w.heap.size A l) (hl : l.length ≤ 1000000000) :
    Calls Try.prog 30 #[.slice A l.length c, .int .i64 k] w (Ret w (.int .i64 (parL l k))) := by
  by_cases h0 : k < 0
  · have e : parL l k = -1 := by unfold parL; rw [if_pos (.inl h0)]
    rw [e]
    clear hA e
    have h0' : k ≤ 0 := by omega
    go_enter Try.func30, Try.ntmps30
    go_wp2_with fail
    refine wp_loop_rounds 1 ?_
    rw [rounds_succ]
    go_wp2_with fail
    go_ret
    exact ⟨rfl, Below.refl _ _⟩
  · by_cases h1 : (l.length : Int) ≤ k
    · have e : parL l k = -1 := by unfold parL; rw [if_pos (.inr h1)]
      rw [e]
      clear hA e
      by_cases hk0 : k ≤ 0
      · go_enter Try.func30, Try.ntmps30
        go_wp2_with fail
        refine wp_loop_rounds 1 ?_
        rw [rounds_succ]
        go_wp2_with fail
        go_ret
        exact ⟨rfl, Below.refl _ _⟩
      · have hk0' : 0 < k := by omega
        go_enter Try.func30, Try.ntmps30
        go_wp2_with fail
        refine wp_loop_rounds 1 ?_
        rw [rounds_succ]
        go_wp2_with fail
        go_ret
        exact ⟨rfl, Below.refl _ _⟩
    · obtain ⟨n, rfl⟩ : ∃ n : Nat, k = n := ⟨k.toNat, by omega⟩
      have hn : n < l.length := by omega
      obtain ⟨ad, rfl, _⟩ := hA (by omega)
      have hx : l[n]? = some l[n] := List.getElem?_eq_getElem hn
      have e : parL l n = parN l l[n].level n := by
        unfold parL
        rw [if_neg (by omega)]
        show (match l[n]? with | some x => _ | none => _) = _
        rw [hx, Int.toNat_natCast]
      rw [e]
      exact RParent_in l ad c n l[n] w hA hx hl _ rfl

set_option maxRecDepth 100000 in
set_option maxHeartbeats 1000000 in
theorem walk_ParsePlaces (l : List ItemD) (A : Option Addr) (c : Nat) (k : Int) (w : World) (hA : ItemsAt w w.heap.size A l) (hs : SmallDoc l) (_ : (Lit.int .i64 k).wf = true) :
    Calls Try.prog 10 #[.slice A l.length c, .int .i64 k] w (Ret w (.bool true)) := by
  have hl : l.length ≤ 1000000000 := hs.1.1
  go_enter Try.func10, Try.ntmps10
  go_wp2_with fail
  refine (alive4_any w).mono ?_
  rintro e w1 ⟨rfl, hb1⟩
  have hA1 := (hA.below hb1).more hb1.size
  go_wp2_with fail
  refine (End_all l A c k w1 hA1 hl).mono ?_
  rintro e w2 ⟨rfl, hb2⟩
  have hA2 := (hA1.below hb2).more hb2.size
  go_wp2_with fail
  refine (REnd_all l A c k w2 hA2 hl).mono ?_
  rintro e w3 ⟨rfl, hb3⟩
  have hA3 := (hA2.below hb3).more hb3.size
  go_wp2_with fail
  refine (Parent_all l A c k w3 hA3 hl).mono ?_
  rintro e w4 ⟨rfl, hb4⟩
  have hA4 := (hA3.below hb4).more hb4.size
  go_wp2_with fail
  refine (RParent_all l A c k w4 hA4 hl).mono ?_
  rintro e w5 ⟨rfl, hb5⟩
  go_wp2_with fail
  go_ret
  exact ⟨rfl, hb1.trans ((hb2.trans ((hb3.trans ((hb4.trans (hb5.mono hb4.size)).mono hb3.size)).mono hb2.size)).mono hb1.size)⟩
end Go.Proofs.Ythifddkmbjnncaa
