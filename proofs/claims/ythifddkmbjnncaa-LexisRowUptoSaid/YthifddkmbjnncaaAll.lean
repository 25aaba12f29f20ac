/-
  lexis.All walked.
-/
import Derived.Test.YthifddkmbjnncaaOne
namespace Go.Proofs.Ythifddkmbjnncaa
open Go.RowKit

theorem own_keep {w w' : World} {B : Nat} {e : TypeId} {size : Nat} {v : Value} {n : Nat} {xs : List Value} (h : w.ownsRow B e size v n xs) (hb : Below w.heap.size w w') : w'.ownsRow B e size v n xs := by
  refine ⟨h.1, ?_⟩
  rcases h.2 with h | ⟨g, cap, cur, h1, h2, h3, h4⟩
  · exact .inl h
  · exact .inr ⟨g, cap, cur, h1, h2, by rw [hb.block g (Array.getElem?_eq_some_iff.1 h3).1]; exact h3, h4⟩

/-- A token with where it stands, and where its attributes stand. -/
abbrev TSlot := (Nat × TokD) × Option Addr × Nat
def cellsT (x : TSlot) : List Value := [.int .i64 x.1.2.kind, .int .i64 x.1.1, strV x.1.2.name, strV x.1.2.text, .slice x.2.1 x.1.2.attrs.length x.2.2]
theorem cellsT_length (x : TSlot) : (cellsT x).length = 5 := rfl
theorem cellsT_one (x : TSlot) : ∀ u ∈ cellsT x, u.oneCell' = true := by
  intro u hu
  simp [cellsT, strV] at hu
  rcases hu with rfl | rfl | rfl | rfl | rfl <;> rfl
theorem infoToken : (Try.prog.info? 34).map (fun i => (i.zero, i.size, i.bytes)) = some (some (.agg #[.int .i64 0, .int .i64 0, .string ByteArray.empty, .string ByteArray.empty, .slice none 0 0]), 5, 72) := by kernel_rfl
def TokensOwn (w : World) (B : Nat) (A : Option Addr) (c : Nat) (S : List TSlot) : Prop := w.ownsRow B 34 5 (.slice A S.length c) S.length (S.flatMap cellsT)
def TAttrs (w : World) (B : Nat) (S : List TSlot) : Prop := ∀ x ∈ S, AttrsOwn w B x.2.1 x.2.2 x.1.2.attrs

def AllPost3 (w : World) (R : List (Nat × TokD) × Nat × Int) (e : Ending) (w' : World) : Prop :=
  Below w.heap.size w w' ∧ ((R.2.2 = 0 ∧ ∃ A c S, e = .returned (.tuple #[.slice A S.length c, .int .i64 0, .int .i64 0]) ∧ TokensOwn w' w.heap.size A c S ∧ TAttrs w' w.heap.size S ∧ S.map (·.1) = R.1)
    ∨ (R.2.2 ≠ 0 ∧ e = .returned (.tuple #[.slice none 0 0, .int .i64 R.2.1, .int .i64 R.2.2])))

theorem TAttrs.keep {w w' : World} {B : Nat} {S : List TSlot} (h : TAttrs w B S) {B' : Nat} (hb : Below B' w w') (hz : w.heap.size ≤ B') : TAttrs w' B S := fun x hx => own_keep (h x hx) (hb.mono hz)

theorem allF_form : ∀ (f : Nat) (p : Nat) (l : List UInt8), l.length < f → (allF f p l).2.2 = 0 → (allF f p l).2.1 = 0
  | 0, _, _, h, _ => by omega
  | f + 1, p, l, hf, h => by
    rw [allF] at h ⊢
    split
    · rfl
    · rename_i hl
      rw [if_neg hl] at h
      have hw := oneT_within l hl
      cases ho : oneT l with
      | bad k e => rw [ho] at h hw; exact absurd h hw.2
      | ok t n =>
        simp only
        split
        · rfl
        · rename_i hq
          rw [ho] at h
          simp only at h
          rw [if_neg hq] at h
          exact absurd h hq
theorem allF_empty : ∀ (f : Nat) (p : Nat) (l : List UInt8), (allF f p l).2.2 ≠ 0 → (allF f p l).1 = []
  | 0, _, _, h => absurd rfl h
  | f + 1, p, l, h => by
    rw [allF] at h ⊢
    split
    · rfl
    · rename_i hl
      rw [if_neg hl] at h
      cases ho : oneT l with
      | bad k e => rfl
      | ok t n =>
        rw [ho] at h
        simp only at h ⊢
        split
        · rename_i hq; rw [if_pos hq] at h; exact absurd rfl h
        · rfl
theorem joinT_start (p : Nat) (l : List UInt8) : joinT [] (allL p l) = allL p l := by
  unfold joinT
  by_cases h : (allL p l).2.2 = 0
  · have h1 := allF_form (l.length + 1) p l (Nat.lt_succ_self _) h
    rw [if_pos h]
    show ([] ++ (allL p l).1, 0, 0) = allL p l
    have e1 : (allL p l).2.1 = 0 := h1
    rw [List.nil_append]
    exact Prod.ext rfl (Prod.ext e1.symm h.symm)
  · rw [if_neg h]
    have h1 := allF_empty (l.length + 1) p l h
    exact Prod.ext h1.symm rfl


set_option maxRecDepth 100000 in
set_option maxHeartbeats 2000000 in
theorem All_any (s : ByteArray) (w : World) (hs : s.size ≤ 1000000000) (R : List (Nat × TokD) × Nat × Int) (hR : Hid (allL 0 s.data.toList = R)) :
    Calls Try.prog 17 #[.string s] w (AllPost3 w R) := by
  have HL := Lib.hid (size_toList s)
  have hJ0 : Hid (joinT [] (allL 0 (s.data.toList.drop 0)) = R) := by
    show _ = _
    rw [List.drop_zero, hR.out]
    rw [← hR.out]
    exact joinT_start _ _
  go_enter Try.func17, Try.ntmps17
  go_wp2_with fail
  go_loopw [5, 6] (fun l i wr => ∃ (pos : Nat) (S : List TSlot) (A : Option Addr) (c m : Nat), pos ≤ s.size ∧ m ≤ pos ∧ i = .int .i64 pos ∧ l = .slice A m c ∧ Hid (S.length = m) ∧ Hid (TokensOwn wr w.heap.size A c S) ∧ Hid (TAttrs wr w.heap.size S) ∧ Hid (Below w.heap.size w wr) ∧ Hid (joinT (S.map (·.1)) (allL pos (s.data.toList.drop pos)) = R)) (fun _ i _ => s.size - (intOf i).toNat)
  case atStart => exact ⟨0, [], none, 0, 0, Nat.zero_le _, Nat.le_refl _, rfl, rfl, rfl, World.ownsRow_nil _ _ _ _, (fun _ h => absurd h List.not_mem_nil : TAttrs w w.heap.size []), Below.refl _ _, hJ0.out⟩
  case round =>
    obtain ⟨pos, S, A, c, m, hps, hmp, rfl, rfl, hm, hown, hat, hbel, hin⟩ := hrel
    by_cases hlt : pos < s.size
    · have hlt' : (pos : Int) < s.size := by omega
      have hne : Hid (s.data.toList.drop pos ≠ []) := by
        show _ ≠ _
        intro e
        have := congrArg List.length e
        rw [List.length_drop, HL.out] at this
        simp at this; omega
      obtain ⟨V, hV⟩ : ∃ V, Hid (oneT (s.data.toList.drop pos) = V) := ⟨_, rfl⟩
      have hwit := oneT_within _ hne.out
      rw [hV.out, List.length_drop, HL.out] at hwit
      go_wp2_with fail
      refine (One_any s pos wr hlt hs V hV).mono ?_
      rintro e1 w2 ⟨hb2, hpost⟩
      cases V with
      | bad k e =>
        have he : e ≠ 0 := hwit.2
        have he1 : (e != 0) = true := by simpa using he
        have HE := Lib.hid he
        have HR : Hid (R = ([], pos + k, e)) := by
          show _ = _
          rw [← hin.out, joinT_one_bad _ _ _ hne.out k e hV.out]
        have hee : e1 = .returned (.tuple #[.agg #[.int .i64 0, .int .i64 0, .string ⟨#[]⟩, .string ⟨#[]⟩, .slice none 0 0], .int .i64 0, .int .i64 (pos + k : Nat), .int .i64 e]) := hpost
        clear he hwit hpost
        subst hee
        go_wp2_with fail
        go_ret3
        rw [HR.out]
        exact ⟨hbel.out.trans ((hb2.mono hbel.out.size).alloc (Nat.le_trans hbel.out.size hb2.size) _), .inr ⟨HE.out, rfl⟩⟩
      | ok t n =>
        obtain ⟨A2, c2, hee0, hA2'⟩ := hpost
        have hee : e1 = .returned (.tuple #[.agg #[.int .i64 t.kind, .int .i64 pos, .string ⟨t.name.toArray⟩, .string ⟨t.text.toArray⟩, .slice A2 t.attrs.length c2], .int .i64 (pos + n : Nat), .int .i64 0, .int .i64 0]) := hee0
        clear hee0
        subst hee
        have hA2 := Lib.hid hA2'
        clear hA2'
        obtain ⟨W2, hW2⟩ : ∃ W2, Hid (W2 = w2.alloc (.cells #[.int .i64 t.kind, .int .i64 pos, .string ⟨t.name.toArray⟩, .string ⟨t.text.toArray⟩, .slice A2 t.attrs.length c2] 34)) := ⟨_, rfl⟩
        have hb2' : Below wr.heap.size wr W2 := by rw [hW2.out]; exact hb2.alloc hb2.size _
        have hown2 : W2.ownsRow w.heap.size 34 5 (.slice A m c) m (S.flatMap cellsT) := by rw [← hm.out]; exact own_keep hown.out hb2'
        have hat2 : Hid (TAttrs W2 w.heap.size (S ++ [((pos, t), A2, c2)])) := fun x hx => by
          rcases List.mem_append.1 hx with h | h
          · exact own_keep (hat.out x h) hb2'
          · simp at h; subst h
            rw [hW2.out]
            exact row_base (World.ownsRow.alloc hA2.out _) hbel.out.size
        have hz2 : w.heap.size ≤ W2.heap.size := Nat.le_trans hbel.out.size hb2'.size
        have HIN : Hid (joinT ((S ++ [((pos, t), A2, c2)]).map (·.1)) (allL (pos + n) (s.data.toList.drop (pos + n))) = R) := by
          show _ = _
          rw [List.map_append, ← hin.out, joinT_step _ pos _ hne.out t n hV.out, List.drop_drop]
          rfl
        go_wp2_with (at_builtin; rw [← hW2.out]; go_loud (refine appendS rfl (.tmp 27) (.tmp 29) 23 rfl w.heap.size 34 (.agg #[.int .i64 0, .int .i64 0, .string ByteArray.empty, .string ByteArray.empty, .slice none 0 0]) 5 72 Try.underlying23 infoToken rfl (by decide) _ m _ (cellsT ((pos, t), A2, c2)) rfl hown2 hz2 _ rfl (by rw [hW2.out]; simp) (cellsT_length _) (cellsT_one _) (by omega) (by decide) ?_))
        intro a4 c4 w4 hown4 hb4 hz4 hg4
        have hown4' : TokensOwn w4 w.heap.size a4 c4 (S ++ [((pos, t), A2, c2)]) := by
          unfold TokensOwn
          rw [List.length_append, List.flatMap_append, hm.out]
          simpa using hown4
        have hat4 : Hid (TAttrs w4 w.heap.size (S ++ [((pos, t), A2, c2)])) := fun x hx => own_grown (World.ownsRow.alloc (hat2.out x hx) _) (World.ownsRow.alloc hown2 _) (by decide) hg4
        have hb4' : Below w.heap.size w w4 := hbel.out.trans ((hb2'.mono hbel.out.size).trans hb4)
        obtain ⟨hn1, hn2⟩ := hwit
        clear hown4 hg4
        go_wp2_with fail
        go_roundw
        case rel => exact ⟨pos + n, S ++ [((pos, t), A2, c2)], a4, c4, m + 1, by omega, by omega, by go_num, rfl, by show _ = _; rw [List.length_append, hm.out]; rfl, hown4', hat4.out, hb4', HIN.out⟩
        case measure => simp [intOf]; omega
    · have hlt' : (s.size : Int) ≤ (pos : Int) := by omega
      have HR : Hid (R = (S.map (·.1), 0, 0)) := by
        show _ = _
        rw [← hin.out, List.drop_eq_nil_of_le (by rw [HL.out]; omega), allL_nil, joinT_nil]
      go_wp2_with fail
      go_ret3
      rw [HR.out]
      exact ⟨hbel.out, .inl ⟨rfl, A, c, S, by rw [hm.out]; rfl, hown.out, hat.out, rfl⟩⟩
end Go.Proofs.Ythifddkmbjnncaa
