/-
  Texts of this claim, joined (by a program of the claim's author): All, LexLaw2, LexLaw3, ParsePlain, PRd, Close, Add.
-/
import Derived.Test.YthifddkmbjnncaaS8
import Derived.Test.YthifddkmbjnncaaS6
import Derived.Test.YthifddkmbjnncaaS4
import Derived.ArgAppend
import Derived.Test.YthifddkmbjnncaaS1
/-
  lexis.All walked.
-/
namespace Go.Proofs.Ythifddkmbjnncaa
open Go.RowKit

theorem own_keep {w w' : World} {B : Nat} {e : TypeId} {size : Nat} {v : Value} {n : Nat} {xs : List Value} (h : w.ownsRow B e size v n xs) (hb : Below w.heap.size w w') : w'.ownsRow B e size v n xs := by
  refine ⟨h.1, ?_⟩
  rcases h.2 with h | ⟨g, cap, cur, h1, h2, h3, h4⟩
  · exact .inl h
  · exact .inr ⟨g, cap, cur, h1, h2, by rw [hb.block g (Array.getElem?_eq_some_iff.1 h3).1]; exact h3, h4⟩

/-- A token with where it stands, and where its attributes stand. -/
abbrev TSlot := (Nat × TokD) × Option Addr × Nat
def cellsT (x : TSlot) : List Value := [.int .i64 x.1.2.kind, .int .i64 x.1.1, strV x.1.2.name, strV x.1.2.text, .slice x.2.1 x.1.2.attrs.length x.2.2]
theorem cellsT_length (x : TSlot) : (cellsT x).length = 5 := rfl
theorem cellsT_one (x : TSlot) : ∀ u ∈ cellsT x, u.oneCell' = true := by
  intro u hu
  simp [cellsT, strV] at hu
  rcases hu with rfl | rfl | rfl | rfl | rfl <;> rfl
theorem infoToken : (Try.prog.info? 34).map (fun i => (i.zero, i.size, i.bytes)) = some (some (.agg #[.int .i64 0, .int .i64 0, .string ByteArray.empty, .string ByteArray.empty, .slice none 0 0]), 5, 72) := by kernel_rfl
def TokensOwn (w : World) (B : Nat) (A : Option Addr) (c : Nat) (S : List TSlot) : Prop := w.ownsRow B 34 5 (.slice A S.length c) S.length (S.flatMap cellsT)
def TAttrs (w : World) (B : Nat) (S : List TSlot) : Prop := ∀ x ∈ S, AttrsOwn w B x.2.1 x.2.2 x.1.2.attrs

def AllPost3 (w : World) (R : List (Nat × TokD) × Nat × Int) (e : Ending) (w' : World) : Prop :=
  Below w.heap.size w w' ∧ ((R.2.2 = 0 ∧ ∃ A c S, e = .returned (.tuple #[.slice A S.length c, .int .i64 0, .int .i64 0]) ∧ TokensOwn w' w.heap.size A c S ∧ TAttrs w' w.heap.size S ∧ S.map (·.1) = R.1)
    ∨ (R.2.2 ≠ 0 ∧ e = .returned (.tuple #[.slice none 0 0, .int .i64 R.2.1, .int .i64 R.2.2])))

theorem TAttrs.keep {w w' : World} {B : Nat} {S : List TSlot} (h : TAttrs w B S) {B' : Nat} (hb : Below B' w w') (hz : w.heap.size ≤ B') : TAttrs w' B S := fun x hx => own_keep (h x hx) (hb.mono hz)

theorem allF_form : ∀ (f : Nat) (p : Nat) (l : List UInt8), l.length < f → (allF f p l).2.2 = 0 → (allF f p l).2.1 = 0
  | 0, _, _, h, _ => by omega
  | f + 1, p, l, hf, h => by
    rw [allF] at h ⊢
    split
    · rfl
    · rename_i hl
      rw [if_neg hl] at h
      have hw := oneT_within l hl
      cases ho : oneT l with
      | bad k e => rw [ho] at h hw; exact absurd h hw.2
      | ok t n =>
        simp only
        split
        · rfl
        · rename_i hq
          rw [ho] at h
          simp only at h
          rw [if_neg hq] at h
          exact absurd h hq
theorem allF_empty : ∀ (f : Nat) (p : Nat) (l : List UInt8), (allF f p l).2.2 ≠ 0 → (allF f p l).1 = []
  | 0, _, _, h => absurd rfl h
  | f + 1, p, l, h => by
    rw [allF] at h ⊢
    split
    · rfl
    · rename_i hl
      rw [if_neg hl] at h
      cases ho : oneT l with
      | bad k e => rfl
      | ok t n =>
        rw [ho] at h
        simp only at h ⊢
        split
        · rename_i hq; rw [if_pos hq] at h; exact absurd rfl h
        · rfl
theorem joinT_start (p : Nat) (l : List UInt8) : joinT [] (allL p l) = allL p l := by
  unfold joinT
  by_cases h : (allL p l).2.2 = 0
  · have h1 := allF_form (l.length + 1) p l (Nat.lt_succ_self _) h
    rw [if_pos h]
    show ([] ++ (allL p l).1, 0, 0) = allL p l
    have e1 : (allL p l).2.1 = 0 := h1
    rw [List.nil_append]
    exact Prod.ext rfl (Prod.ext e1.symm h.symm)
  · rw [if_neg h]
    have h1 := allF_empty (l.length + 1) p l h
    exact Prod.ext h1.symm rfl


set_option maxRecDepth 100000 in
set_option maxHeartbeats 2000000 in
theorem All_any (s : ByteArray) (w : World) (hs : s.size ≤ 1000000000) (R : List (Nat × TokD) × Nat × Int) (hR : Hid (allL 0 s.data.toList = R)) :
    Calls Try.prog 17 #[.string s] w (AllPost3 w R) := by
  have HL := Lib.hid (size_toList s)
  have hJ0 : Hid (joinT [] (allL 0 (s.data.toList.drop 0)) = R) := by
    show _ = _
    rw [List.drop_zero, hR.out]
    rw [← hR.out]
    exact joinT_start _ _
  go_enter Try.func17, Try.ntmps17
  go_wp2_with fail
  go_loopw [5, 6] (fun l i wr => ∃ (pos : Nat) (S : List TSlot) (A : Option Addr) (c m : Nat), pos ≤ s.size ∧ m ≤ pos ∧ i = .int .i64 pos ∧ l = .slice A m c ∧ Hid (S.length = m) ∧ Hid (TokensOwn wr w.heap.size A c S) ∧ Hid (TAttrs wr w.heap.size S) ∧ Hid (Below w.heap.size w wr) ∧ Hid (joinT (S.map (·.1)) (allL pos (s.data.toList.drop pos)) = R)) (fun _ i _ => s.size - (intOf i).toNat)
  case atStart => exact ⟨0, [], none, 0, 0, Nat.zero_le _, Nat.le_refl _, rfl, rfl, rfl, World.ownsRow_nil _ _ _ _, (fun _ h => absurd h List.not_mem_nil : TAttrs w w.heap.size []), Below.refl _ _, hJ0.out⟩
  case round =>
    obtain ⟨pos, S, A, c, m, hps, hmp, rfl, rfl, hm, hown, hat, hbel, hin⟩ := hrel
    by_cases hlt : pos < s.size
    · have hlt' : (pos : Int) < s.size := by omega
      have hne : Hid (s.data.toList.drop pos ≠ []) := by
        show _ ≠ _
        intro e
        have := congrArg List.length e
        rw [List.length_drop, HL.out] at this
        simp at this; omega
      obtain ⟨V, hV⟩ : ∃ V, Hid (oneT (s.data.toList.drop pos) = V) := ⟨_, rfl⟩
      have hwit := oneT_within _ hne.out
      rw [hV.out, List.length_drop, HL.out] at hwit
      go_wp2_with fail
      refine (One_any s pos wr hlt hs V hV).mono ?_
      rintro e1 w2 ⟨hb2, hpost⟩
      cases V with
      | bad k e =>
        have he : e ≠ 0 := hwit.2
        have he1 : (e != 0) = true := by simpa using he
        have HE := Lib.hid he
        have HR : Hid (R = ([], pos + k, e)) := by
          show _ = _
          rw [← hin.out, joinT_one_bad _ _ _ hne.out k e hV.out]
        have hee : e1 = .returned (.tuple #[.agg #[.int .i64 0, .int .i64 0, .string ⟨#[]⟩, .string ⟨#[]⟩, .slice none 0 0], .int .i64 0, .int .i64 (pos + k : Nat), .int .i64 e]) := hpost
        clear he hwit hpost
        subst hee
        go_wp2_with fail
        go_ret3
        rw [HR.out]
        exact ⟨hbel.out.trans ((hb2.mono hbel.out.size).alloc (Nat.le_trans hbel.out.size hb2.size) _), .inr ⟨HE.out, rfl⟩⟩
      | ok t n =>
        obtain ⟨A2, c2, hee0, hA2'⟩ := hpost
        have hee : e1 = .returned (.tuple #[.agg #[.int .i64 t.kind, .int .i64 pos, .string ⟨t.name.toArray⟩, .string ⟨t.text.toArray⟩, .slice A2 t.attrs.length c2], .int .i64 (pos + n : Nat), .int .i64 0, .int .i64 0]) := hee0
        clear hee0
        subst hee
        have hA2 := Lib.hid hA2'
        clear hA2'
        obtain ⟨W2, hW2⟩ : ∃ W2, Hid (W2 = w2.alloc (.cells #[.int .i64 t.kind, .int .i64 pos, .string ⟨t.name.toArray⟩, .string ⟨t.text.toArray⟩, .slice A2 t.attrs.length c2] 34)) := ⟨_, rfl⟩
        have hb2' : Below wr.heap.size wr W2 := by rw [hW2.out]; exact hb2.alloc hb2.size _
        have hown2 : W2.ownsRow w.heap.size 34 5 (.slice A m c) m (S.flatMap cellsT) := by rw [← hm.out]; exact own_keep hown.out hb2'
        have hat2 : Hid (TAttrs W2 w.heap.size (S ++ [((pos, t), A2, c2)])) := fun x hx => by
          rcases List.mem_append.1 hx with h | h
          · exact own_keep (hat.out x h) hb2'
          · simp at h; subst h
            rw [hW2.out]
            exact row_base (World.ownsRow.alloc hA2.out _) hbel.out.size
        have hz2 : w.heap.size ≤ W2.heap.size := Nat.le_trans hbel.out.size hb2'.size
        have HIN : Hid (joinT ((S ++ [((pos, t), A2, c2)]).map (·.1)) (allL (pos + n) (s.data.toList.drop (pos + n))) = R) := by
          show _ = _
          rw [List.map_append, ← hin.out, joinT_step _ pos _ hne.out t n hV.out, List.drop_drop]
          rfl
        go_wp2_with (at_builtin; rw [← hW2.out]; go_loud (refine appendS rfl (.tmp 27) (.tmp 29) 23 rfl w.heap.size 34 (.agg #[.int .i64 0, .int .i64 0, .string ByteArray.empty, .string ByteArray.empty, .slice none 0 0]) 5 72 Try.underlying23 infoToken rfl (by decide) _ m _ (cellsT ((pos, t), A2, c2)) rfl hown2 hz2 _ rfl (by rw [hW2.out]; simp) (cellsT_length _) (cellsT_one _) (by omega) (by decide) ?_))
        intro a4 c4 w4 hown4 hb4 hz4 hg4
        have hown4' : TokensOwn w4 w.heap.size a4 c4 (S ++ [((pos, t), A2, c2)]) := by
          unfold TokensOwn
          rw [List.length_append, List.flatMap_append, hm.out]
          simpa using hown4
        have hat4 : Hid (TAttrs w4 w.heap.size (S ++ [((pos, t), A2, c2)])) := fun x hx => own_grown (World.ownsRow.alloc (hat2.out x hx) _) (World.ownsRow.alloc hown2 _) (by decide) hg4
        have hb4' : Below w.heap.size w w4 := hbel.out.trans ((hb2'.mono hbel.out.size).trans hb4)
        obtain ⟨hn1, hn2⟩ := hwit
        clear hown4 hg4
        go_wp2_with fail
        go_roundw
        case rel => exact ⟨pos + n, S ++ [((pos, t), A2, c2)], a4, c4, m + 1, by omega, by omega, by go_num, rfl, by show _ = _; rw [List.length_append, hm.out]; rfl, hown4', hat4.out, hb4', HIN.out⟩
        case measure => simp [intOf]; omega
    · have hlt' : (s.size : Int) ≤ (pos : Int) := by omega
      have HR : Hid (R = (S.map (·.1), 0, 0)) := by
        show _ = _
        rw [← hin.out, List.drop_eq_nil_of_le (by rw [HL.out]; omega), allL_nil, joinT_nil]
      go_wp2_with fail
      go_ret3
      rw [HR.out]
      exact ⟨hbel.out, .inl ⟨rfl, A, c, S, by rw [hm.out]; rfl, hown.out, hat.out, rfl⟩⟩
end Go.Proofs.Ythifddkmbjnncaa

/-
  The plain laws of tokens: blanks, rows, parts: no program in sight.
-/
namespace Go.Proofs.Ythifddkmbjnncaa

/-! ## Blanks ahead of the end -/
/-- what a tag may end with -/
def endB (e : List UInt8) : Prop := e = [62] ∨ e = [47, 62]
theorem endB.stops {e : List UInt8} (h : endB e) : ∀ x t, e = x :: t → nb x = false ∧ blankB x = false := by
  rcases h with rfl | rfl <;> intro x t e <;> injection e with e _ <;> subst e <;> decide
theorem endB.quote {e : List UInt8} (h : endB e) : 34 ∉ e := by
  rcases h with rfl | rfl <;> decide

theorem skip_all : ∀ (bl l : List UInt8), bl.all blankB = true → skipL (bl ++ l) = bl.length + skipL l
  | [], l, _ => by simp
  | b :: bl, l, h => by
    simp only [List.all_cons, Bool.and_eq_true] at h
    unfold skipL
    rw [List.cons_append, List.takeWhile_cons, if_pos h.1]
    have := skip_all bl l h.2
    unfold skipL at this
    simp only [List.length_cons, this]; omega
theorem takeWhile_whole {α : Type} (p : α → Bool) : ∀ l : List α, (l.takeWhile p).length = l.length → l.all p = true
  | [], _ => rfl
  | a :: l, h => by
    rw [List.takeWhile_cons] at h
    split at h
    · rename_i hp
      simp only [List.length_cons] at h
      rw [List.all_cons, hp, takeWhile_whole p l (by omega)]; rfl
    · simp at h
theorem skip_stop {e : List UInt8} (he : endB e) (l : List UInt8) : skipL (l ++ e) = skipL l := by
  unfold skipL; rw [takeWhile_stop _ _ _ (fun x t h => (he.stops x t h).2)]
theorem skip_end {e : List UInt8} (he : endB e) : skipL e = 0 := by
  have := skip_stop he []
  simpa [skipL] using this
theorem word_stop {e : List UInt8} (he : endB e) (l : List UInt8) : wordL (l ++ e) = wordL l := takeWhile_stop _ _ _ (fun x t h => (he.stops x t h).1)
theorem word_blanks {e bl : List UInt8} (he : endB e) (hb : bl.all blankB = true) (l : List UInt8) : wordL (l ++ bl ++ e) = wordL l := by
  rw [List.append_assoc]
  refine takeWhile_stop _ _ _ (fun x t h => ?_)
  cases bl with
  | nil => exact (he.stops x t h).1
  | cons b bl =>
    injection h with h _
    subst h
    simp only [List.all_cons, Bool.and_eq_true] at hb
    have := hb.1
    unfold blankB at this
    unfold nb
    simp only [Bool.or_eq_true, beq_iff_eq] at this
    rcases this with (h | h) | h <;> subst h <;> decide

theorem endT_blanks {x bl : List UInt8} {t : TokD} {e : List UInt8} (he : endB e) (hb : bl.all blankB = true) (h : endT (x ++ e) = .ok t (x.length + e.length)) : endT (x ++ bl ++ e) = .ok t (x.length + bl.length + e.length) := by
  unfold endT at h
  simp only [word_stop he] at h
  split at h
  · cases h
  rename_i h1
  split at h
  · rename_i h2
    injection h with ht hn
    have hw := wordL_len x
    rw [drop_more e hw, skip_stop he] at hn
    have hs := skipL_len (x.drop (wordL x).length)
    rw [List.length_drop] at hs
    have hel : e.length = 1 := by rcases he with rfl | rfl <;> simp at * ; omega
    have he1 : e = [62] := by
      rcases he with h | h
      · exact h
      · rw [h] at hel; simp at hel
    subst he1
    have hk : (wordL x).length + skipL (x.drop (wordL x).length) = x.length := by simp at hn; omega
    have hall : (x.drop (wordL x).length).all blankB = true := by
      apply takeWhile_whole
      rw [List.length_drop]; unfold skipL at hk; omega
    unfold endT
    simp only [word_blanks he hb]
    rw [if_neg h1]
    have hd : (x ++ bl ++ [62]).drop (wordL x).length = x.drop (wordL x).length ++ (bl ++ [62]) := by
      rw [List.append_assoc, drop_more _ hw]
    have hsk : skipL ((x ++ bl ++ [62]).drop (wordL x).length) = x.length - (wordL x).length + bl.length := by
      rw [hd, skip_all _ _ hall, skip_all _ _ hb, skip_end he, List.length_drop]; omega
    rw [hsk]
    have hlen : (wordL x).length + (x.length - (wordL x).length + bl.length) = (x ++ bl).length := by simp; omega
    rw [hlen, List.drop_append_of_le_length (Nat.le_refl _), List.drop_length, List.nil_append, if_pos (by decide)]
    rw [ht]; simp
  · cases h

theorem last_drop {x : List UInt8} (h : x.getLast? ≠ some 47) (k : Nat) : (x.drop k).getLast? ≠ some 47 := by
  intro e
  apply h
  rw [List.getLast?_drop] at e
  split at e
  · cases e
  · exact e

theorem attrsF_blanks {e bl : List UInt8} (he : endB e) (hb : bl.all blankB = true) : ∀ (f g : Nat) (x : List UInt8) (bs : List AttrD) (q : Int × List AttrD), f ≤ g → x.getLast? ≠ some 47 → attrsF f (x ++ e) bs = .ok q (x.length + e.length) → attrsF g (x ++ bl ++ e) bs = .ok q (x.length + bl.length + e.length)
  | 0, _, _, _, _, _, _, h => by cases h
  | f + 1, 0, _, _, _, hg, _, _ => by omega
  | f + 1, g + 1, x, bs, q, hg, hx, h => by
    have hsk := skipL_len x
    have he0 : 1 ≤ e.length := by rcases he with rfl | rfl <;> simp
    rw [attrsF] at h
    simp only [skip_stop he] at h
    rw [attrsF]
    by_cases hall : skipL x = x.length
    · have ha : x.all blankB = true := takeWhile_whole _ _ hall
      rw [hall, List.drop_append_of_le_length (Nat.le_refl _), List.drop_length, List.nil_append] at h
      have hs2 : skipL (x ++ bl ++ e) = (x ++ bl).length := by
        rw [List.append_assoc, skip_all _ _ ha, skip_all _ _ hb, skip_end he]; simp
      simp only [hs2]
      rw [List.drop_append_of_le_length (Nat.le_refl _), List.drop_length, List.nil_append]
      rcases he with rfl | rfl
      · rw [if_pos (by decide)] at h ⊢
        injection h with h _
        rw [h]; simp
      · rw [if_neg (by decide), if_pos (by decide)] at h ⊢
        injection h with h _
        rw [h]; simp
    · have hlt : skipL x < x.length := by omega
      have hs2 : skipL (x ++ bl ++ e) = skipL x := by rw [List.append_assoc]; exact skipL_more _ hlt
      simp only [hs2]
      rw [List.append_assoc, drop_more _ hsk]
      rw [drop_more _ hsk] at h
      have hrl : (x.drop (skipL x)).length = x.length - skipL x := List.length_drop
      have hlast := last_drop hx (skipL x)
      have hp1 : pre [62] (x.drop (skipL x) ++ (bl ++ e)) = pre [62] (x.drop (skipL x) ++ e) := by
        rw [pre_more (by rw [hrl]; simp; omega), pre_more (by rw [hrl]; simp; omega)]
      rw [hp1]
      split at h
      · exfalso
        injection h with _ h
        omega
      rename_i h1
      rw [if_neg h1]
      split at h
      · exfalso
        rename_i h2
        injection h with _ h
        have : (x.drop (skipL x)).length = 1 := by omega
        match hd : x.drop (skipL x), this with
        | [c], _ =>
          rw [hd] at h2 hlast
          obtain ⟨t, ht⟩ := pre_cons2 h2
          injection ht with ht _
          subst ht
          exact hlast rfl
      rename_i h2
      split at h
      · cases h
      rename_i h3
      cases ha : attrL (x.drop (skipL x) ++ e) bs with
      | bad k c => rw [ha] at h; cases h
      | ok a n =>
        rw [ha] at h
        simp only at h
        obtain ⟨u, r, hu, hn, hmore⟩ := attrL_parts ha
        have hw3 := attrL_within (x.drop (skipL x) ++ e) bs
        rw [ha] at hw3
        obtain ⟨h3n, _⟩ := hw3
        have hnr : n ≤ (x.drop (skipL x)).length ∧ ∃ r0, x.drop (skipL x) = u ++ [34] ++ r0 := by
          rcases List.append_eq_append_iff.1 hu with ⟨a', h4, h5⟩ | ⟨a', h4, h5⟩
          · -- the attribute reaches into the end
            cases a' with
            | nil =>
              rw [List.append_nil] at h4
              refine ⟨by rw [← h4]; simp; omega, [], by rw [← h4]; simp⟩
            | cons c a' =>
              exfalso
              have hm : (34 : UInt8) ∈ e := by
                have : (u ++ [34]).getLast? = some 34 := by simp
                rw [h4, List.getLast?_append] at this
                simp only [List.getLast?_cons] at this
                have hmem : (34 : UInt8) ∈ c :: a' := by
                  have hg : (c :: a').getLast? = some 34 := by rw [List.getLast?_cons]; simpa using this
                  exact List.mem_of_getLast? hg
                rw [h5]; exact List.mem_append_left _ hmem
              exact he.quote hm
          · exact ⟨by rw [h4]; simp; omega, a', h4⟩
        obtain ⟨hn1, r0, hr0⟩ := hnr
        have ha2 : attrL (x.drop (skipL x) ++ (bl ++ e)) bs = .ok a n := by
          rw [hr0, List.append_assoc]; exact hmore _
        have hp2 : pre [47, 62] (x.drop (skipL x) ++ (bl ++ e)) = false := by
          rw [pre_more (by simp; omega)]
          rw [pre_more (by simp; omega)] at h2
          simpa using h2
        rw [hp2, if_neg (by decide), if_neg (by
          intro hh
          rcases hh with hh | hh
          · exact h3 (.inl hh)
          · have := congrArg List.length (List.append_eq_nil_iff.1 hh).1
            rw [hrl] at this; simp at this; omega), ha2]
        simp only
        rw [drop_more _ hn1] at h ⊢
        cases hq : attrsF f ((x.drop (skipL x)).drop n ++ e) (bs ++ [a]) with
        | bad k c => rw [hq] at h; cases h
        | ok y m =>
          rw [hq] at h
          injection h with hy hm
          subst hy
          have hm' : m = ((x.drop (skipL x)).drop n).length + e.length := by rw [List.length_drop, hrl]; omega
          rw [hm'] at hq
          have ih := attrsF_blanks he hb f g ((x.drop (skipL x)).drop n) (bs ++ [a]) y (by omega) (last_drop hlast n) hq
          rw [List.append_assoc] at ih
          rw [ih]
          simp only [Told.past, List.length_drop, Told.ok.injEq, true_and]
          omega
theorem beginT_blanks {x bl e : List UInt8} {t : TokD} (he : endB e) (hb : bl.all blankB = true) (hx : x.getLast? ≠ some 47) (h : beginT (x ++ e) = .ok t (x.length + e.length)) : beginT (x ++ bl ++ e) = .ok t (x.length + bl.length + e.length) := by
  have hw := wordL_len x
  unfold beginT at h
  simp only [word_stop he] at h
  split at h
  · cases h
  rename_i h1
  rw [drop_more _ hw] at h
  cases hq : attrsF ((x ++ e).length + 1) (x.drop (wordL x).length ++ e) [] with
  | bad k c => rw [hq] at h; cases h
  | ok q m =>
    rw [hq] at h
    injection h with ht hm
    have hm' : m = (x.drop (wordL x).length).length + e.length := by rw [List.length_drop]; omega
    rw [hm'] at hq
    have := attrsF_blanks he hb _ ((x ++ bl ++ e).length + 1) _ _ _ (by simp) (last_drop hx _) hq
    unfold beginT
    simp only [word_blanks he hb]
    rw [if_neg h1, show (x ++ bl ++ e).drop (wordL x).length = x.drop (wordL x).length ++ bl ++ e by rw [List.append_assoc, drop_more _ hw, List.append_assoc], this]
    simp only [ht, List.length_drop, Told.ok.injEq, true_and]
    omega

/-- a beginning, or an end, whose name is not empty and does not end with a slash -/
theorem oneT_blanks {n bl e : List UInt8} {t : TokD} (he : endB e) (hb : bl.all blankB = true) (hn : n ≠ []) (hx : n.getLast? ≠ some 47) (h : oneT (60 :: n ++ e) = .ok t (60 :: n ++ e).length) : oneT (60 :: n ++ bl ++ e) = .ok t (60 :: n ++ bl ++ e).length := by
  cases n with
  | nil => exact absurd rfl hn
  | cons c n =>
    by_cases hc : c = 47
    · subst hc
      have p1 : pre [60, 47] (60 :: 47 :: n ++ e) = true := by simp [pre]
      have p2 : pre [60, 47] (60 :: 47 :: n ++ bl ++ e) = true := by simp [pre]
      unfold oneT at h ⊢
      rw [if_pos p1] at h
      rw [if_pos p2]
      have d1 : (60 :: 47 :: n ++ e).drop 2 = n ++ e := rfl
      have d2 : (60 :: 47 :: n ++ bl ++ e).drop 2 = n ++ bl ++ e := rfl
      rw [d1] at h
      rw [d2]
      cases hq : endT (n ++ e) with
      | bad k c => rw [hq] at h; cases h
      | ok u m =>
        rw [hq] at h
        injection h with ht hm
        have hm' : m = n.length + e.length := by simp at hm; omega
        rw [hm'] at hq
        rw [endT_blanks he hb hq, ← ht]
        simp only [Told.past, List.length_append, List.length_cons, Told.ok.injEq, true_and]
        omega
    · have p1 : ∀ r, pre [60, 47] (60 :: c :: r) = false := fun r => by simp [pre, hc]
      have p2 : ∀ r, pre [60] (60 :: c :: r) = true := fun r => by simp [pre]
      unfold oneT at h ⊢
      simp only [List.cons_append, p1, p2, Bool.false_eq_true, if_false, if_true] at h ⊢
      have d1 : ∀ r, (60 :: c :: r).drop 1 = c :: r := fun _ => rfl
      rw [d1] at h ⊢
      cases hq : beginT (c :: (n ++ e)) with
      | bad k c => rw [hq] at h; cases h
      | ok u m =>
        rw [hq] at h
        injection h with ht hm
        have hm' : m = (c :: n).length + e.length := by simp at hm ⊢; omega
        rw [hm'] at hq
        have := beginT_blanks (x := c :: n) he hb hx hq
        rw [List.cons_append, List.cons_append] at this
        rw [this, ← ht]
        simp only [Told.past, List.length_append, List.length_cons, Told.ok.injEq, true_and]
        omega
theorem oneT_blanks_end {n bl : List UInt8} {t : TokD} (hb : bl.all blankB = true) (h : oneT (60 :: 47 :: n ++ [62]) = .ok t (60 :: 47 :: n ++ [62]).length) : oneT (60 :: 47 :: n ++ bl ++ [62]) = .ok t (60 :: 47 :: n ++ bl ++ [62]).length := by
  have he : endB [62] := .inl rfl
  have p1 : pre [60, 47] (60 :: 47 :: n ++ [62]) = true := by simp [pre]
  have p2 : pre [60, 47] (60 :: 47 :: n ++ bl ++ [62]) = true := by simp [pre]
  unfold oneT at h ⊢
  rw [if_pos p1] at h
  rw [if_pos p2]
  have d1 : (60 :: 47 :: n ++ [62]).drop 2 = n ++ [62] := rfl
  have d2 : (60 :: 47 :: n ++ bl ++ [62]).drop 2 = n ++ bl ++ [62] := rfl
  rw [d1] at h
  rw [d2]
  cases hq : endT (n ++ [62]) with
  | bad k c => rw [hq] at h; cases h
  | ok u m =>
    rw [hq] at h
    injection h with ht hm
    have hm' : m = n.length + [62].length := by simp at hm ⊢; omega
    rw [hm'] at hq
    rw [endT_blanks he hb hq, ← ht]
    simp only [Told.past, List.length_append, List.length_cons, Told.ok.injEq, true_and]
    omega
end Go.Proofs.Ythifddkmbjnncaa

/-
  The plain laws of tokens: rows, parts: no program in sight.
-/
namespace Go.Proofs.Ythifddkmbjnncaa

theorem charB_of_step {v : Bool} {l t : List UInt8} {n : Nat} (h : stepL v l = .inr (t, n)) : ∃ c, charB c = true ∧ t = enc c := by
  simp only [stepL] at h
  split at h
  · cases h
  split at h
  · cases h
  generalize (if (nextL l).fst = 38 then refL l else nextL l) = r at h
  split at h
  · cases h
  split at h
  · cases h
  rename_i hc
  injection h with h
  injection h with h _
  have hc' : charB r.1 = true := by simpa using hc
  refine ⟨_, hc', ?_⟩
  rw [← h]; unfold putF; rw [if_pos hc']
theorem undo_chars (v : Bool) : ∀ (k : Nat) (l : List UInt8), l.length ≤ k → (undoL v l).2.2 = 0 → ∃ cs, charsL (undoL v l).1 = some cs
  | 0, l, hk, _ => by
    obtain rfl : l = [] := List.eq_nil_of_length_eq_zero (by omega)
    rw [undoL_nil]; exact ⟨[], charsL_nil⟩
  | k + 1, l, hk, h => by
    by_cases hl : l = []
    · subst hl; rw [undoL_nil]; exact ⟨[], charsL_nil⟩
    · cases hs : stepL v l with
      | inl e =>
        rw [undoL_bad v l hl e hs] at h ⊢
        exact ⟨[], charsL_nil⟩
      | inr q =>
        obtain ⟨t, n⟩ := q
        have hp := stepL_pos hs
        rw [undoL_step v l hl t n hs] at h ⊢
        unfold joinU at h ⊢
        split at h
        · rename_i h0
          rw [if_pos h0]
          obtain ⟨cs, hcs⟩ := undo_chars v k (l.drop n) (by rw [List.length_drop]; omega) h0
          obtain ⟨c, hc, rfl⟩ := charB_of_step hs
          have he : charsL (enc c) = some [c] := by
            have := chars_enc [c] (by simp [hc])
            simpa using this
          exact ⟨[c] ++ cs, chars_append _ _ _ _ he hcs⟩
        · rename_i h0
          exact absurd h h0
theorem undo_ne {v : Bool} {l : List UInt8} (hl : l ≠ []) (h : (undoL v l).2.2 = 0) : (undoL v l).1 ≠ [] := by
  cases hs : stepL v l with
  | inl e =>
    exfalso
    rw [undoL_bad v l hl e hs] at h
    have he : e = 0 := h
    subst he
    simp only [stepL] at hs
    split at hs
    · injection hs with hs; omega
    split at hs
    · injection hs with hs; omega
    generalize (if (nextL l).fst = 38 then refL l else nextL l) = r at hs
    split at hs
    · injection hs with hs; omega
    split at hs
    · injection hs with hs; omega
    · cases hs
  | inr q =>
    obtain ⟨t, n⟩ := q
    obtain ⟨c, hc, rfl⟩ := charB_of_step hs
    rw [undoL_step v l hl _ n hs] at h ⊢
    unfold joinU at h ⊢
    split at h
    · rename_i h0
      rw [if_pos h0]
      intro e
      exact enc_ne c (List.append_eq_nil_iff.1 e).1
    · rename_i h0; exact absurd h h0

/-- how what is told of a token is made -/
inductive TokFine (l : List UInt8) (t : TokD) (n : Nat) : Prop
  | text (hk : t.kind = 4) (hn : t.name = []) (ha : t.attrs = []) (h60 : pre [60] l = false) (hb : n = (l.takeWhile (· != 60)).length) (hu : (undoL false (l.takeWhile (· != 60))).2.2 = 0) (ht : t.text = (undoL false (l.takeWhile (· != 60))).1) (hl : t.text.length ≤ 1500)
  | stop (hk : t.kind = 2) (hn : nameL t.name = true) (ha : t.attrs = []) (ht : t.text = []) (h60 : pre [60] l = true)
  | start (hk : t.kind = 1 ∨ t.kind = 3) (hn : nameL t.name = true) (ht : t.text = []) (h60 : pre [60] l = true) (bs : List AttrD) (ha : t.attrs = sortA bs) (hf : AttrsFine bs)

theorem pre_first {a b : UInt8} {l : List UInt8} (h : pre [a, b] l = true) : pre [a] l = true := by
  obtain ⟨t, rfl⟩ := pre_cons2 h
  simp [pre]
theorem oneT_fine {l : List UInt8} {t : TokD} {n : Nat} (h : oneT l = .ok t n) : TokFine l t n := by
  unfold oneT at h
  split at h
  · rename_i h1
    cases he : endT (l.drop 2) with
    | bad k e => rw [he] at h; cases h
    | ok u k =>
      rw [he] at h
      injection h with h _
      subst h
      unfold endT at he
      simp only at he
      split at he
      · cases he
      rename_i h2
      split at he
      · injection he with he _
        subst he
        exact .stop rfl (by simpa using h2) rfl rfl (pre_first h1)
      · cases he
  · split at h
    · rename_i h1
      cases he : beginT (l.drop 1) with
      | bad k e => rw [he] at h; cases h
      | ok u k =>
        rw [he] at h
        injection h with h _
        subst h
        unfold beginT at he
        simp only at he
        split at he
        · cases he
        rename_i h2
        cases hq : attrsF ((l.drop 1).length + 1) ((l.drop 1).drop (wordL (l.drop 1)).length) [] with
        | bad k e => rw [hq] at he; cases he
        | ok q m =>
          rw [hq] at he
          injection he with he _
          subst he
          obtain ⟨h3, h4⟩ := attrsF_fine _ _ _ _ _ attrsFine_nil hq
          exact .start h4 (by simpa using h2) rfl h1 q.2 rfl h3
    · rename_i h1
      unfold textT at h
      simp only at h
      split at h
      · cases h
      rename_i h2
      split at h
      · cases h
      rename_i h3
      injection h with h hn
      subst h
      exact .text rfl rfl rfl (by simpa using h1) hn.symm (by simpa using h2) rfl (by simpa using h3)

theorem text_ne {l : List UInt8} {t : TokD} {n : Nat} (hl : l ≠ []) (h : oneT l = .ok t n) (hk : t.kind = 4) : t.text ≠ [] := by
  rcases oneT_fine h with ⟨_, _, _, h60, _, hu, ht, _⟩ | ⟨hk', _⟩ | ⟨hk', _⟩
  · rw [ht]
    refine undo_ne ?_ hu
    cases l with
    | nil => exact absurd rfl hl
    | cons a r =>
      have : (a != 60) = true := by
        simp only [pre, List.length_cons, List.length_nil, List.take_succ_cons, List.take_zero] at h60
        cases h : a == 60 with
        | true => rw [eq_of_beq h] at h60; simp at h60
        | false => simp [bne, h]
      rw [List.takeWhile_cons, if_pos this]; simp
  · omega
  · omega
/-- behind a text stands a tag, or nothing -/
theorem behind_text {l : List UInt8} {t u : TokD} {n m : Nat} (h : oneT l = .ok t n) (hk : t.kind = 4) (hu : oneT (l.drop n) = .ok u m) (hne : l.drop n ≠ []) : u.kind ≠ 4 := by
  rcases oneT_fine h with ⟨_, _, _, h60, hn, _⟩ | ⟨hk', _⟩ | ⟨hk', _⟩
  · intro hk'
    rcases oneT_fine hu with ⟨_, _, _, h60', _⟩ | ⟨hk', _⟩ | ⟨hk', _⟩
    · subst hn
      have e : l.drop (l.takeWhile (· != 60)).length = l.dropWhile (· != 60) := by
        have h1 := span_word l (· != 60)
        have h2 := List.takeWhile_append_dropWhile (p := (· != 60)) (l := l)
        exact List.append_cancel_left (h1.symm.trans h2.symm)
      rw [e] at h60' hne
      have := List.head?_dropWhile_not (· != 60) l
      cases hd : l.dropWhile (· != 60) with
      | nil => exact hne hd
      | cons a r =>
        rw [hd] at this h60'
        simp at this
        subst this
        simp [pre] at h60'
    · omega
    · omega
  · omega
  · omega

/-- what is told of any token -/
theorem tok_parts {l : List UInt8} {t : TokD} {n : Nat} (h : oneT l = .ok t n) :
    (t.kind < 4 → nameL t.name = true) ∧ (t.kind = 4 → t.name = []) ∧ charsE t.text = 0 ∧ t.attrs.length ≤ 20 ∧ Rise t.attrs ∧ (∀ a ∈ t.attrs, nameL a.name = true ∧ charsE a.value = 0) := by
  have hcE : ∀ {v : Bool} {x : List UInt8}, (undoL v x).2.2 = 0 → (undoL v x).1.length ≤ 1500 → charsE (undoL v x).1 = 0 := fun {v x} h0 h1 => by
    obtain ⟨cs, hcs⟩ := undo_chars v _ x (Nat.le_refl _) h0
    unfold charsE countL
    rw [hcs]
    simp only
    rw [if_neg (by omega), if_neg (by omega)]
  have hnil : charsE [] = 0 := by
    unfold charsE countL
    rw [charsL_nil]; simp
  rcases oneT_fine h with ⟨hk, hn, ha, _, _, hu, ht, hl⟩ | ⟨hk, hn, ha, ht, _⟩ | ⟨hk, hn, ht, _, bs, ha, hf⟩
  · refine ⟨fun h => by omega, fun _ => hn, ?_, by rw [ha]; simp, by rw [ha]; exact List.Pairwise.nil, by rw [ha]; intro a h; cases h⟩
    rw [ht] at hl ⊢; exact hcE hu hl
  · exact ⟨fun _ => hn, fun h => by omega, by rw [ht]; exact hnil, by rw [ha]; simp, by rw [ha]; exact List.Pairwise.nil, by rw [ha]; intro a h; cases h⟩
  · refine ⟨fun _ => hn, fun h => by omega, by rw [ht]; exact hnil, by rw [ha, (sortA_perm bs).length_eq]; exact hf.many, by rw [ha]; exact sortA_rise hf.apart, fun a h => ?_⟩
    rw [ha] at h
    have := hf.all a ((sortA_perm bs).mem_iff.1 h)
    obtain ⟨x, h0, h1⟩ := this.value
    exact ⟨this.name, by have h2 := this.long; rw [← h1] at h2 ⊢; exact hcE h0 h2⟩
end Go.Proofs.Ythifddkmbjnncaa

/-
  The plain law of reading a document: no program in sight.
-/
namespace Go.Proofs.Ythifddkmbjnncaa

/-- the item that a token tells of, at a level -/
def itemOf (n : Nat) (t : TokD) : ItemD := if t.kind = 4 then ⟨n, 2, [], t.text, []⟩ else ⟨n, 1, t.name, [], t.attrs⟩

/-- why an item may not be added -/
def addE (items : List ItemD) (o : List (List UInt8)) (kind : Int) : Int :=
  if o = [] ∧ (kind = 4 ∨ items ≠ []) then 40 else if 40 ≤ o.length then 42 else if 1000 ≤ items.length then 43 else 0

/-- one token: an error's number, or the items and what is open then (the innermost one last) -/
def takeT (items : List ItemD) (o : List (List UInt8)) (t : TokD) : Int ⊕ (List ItemD × List (List UInt8)) :=
  if t.kind = 2 then (if o.getLast? = some t.name then .inr (items, o.dropLast) else .inl 41)
  else if addE items o t.kind ≠ 0 then .inl (addE items o t.kind)
  else .inr (items ++ [itemOf o.length t], if t.kind = 1 then o ++ [t.name] else o)

/-- a document's end -/
def endP (items : List ItemD) (o : List (List UInt8)) (at_ : Nat) : List ItemD × Nat × Int :=
  if items = [] then ([], at_, 40) else if o ≠ [] then ([], at_, 41) else (items, 0, 0)

def parseF : Nat → Nat → List UInt8 → List ItemD → List (List UInt8) → List ItemD × Nat × Int
  | 0, at_, _, items, o => endP items o at_
  | f + 1, at_, l, items, o =>
    if l = [] then endP items o at_
    else match oneT l with
      | .bad k e => ([], at_ + k, e)
      | .ok t n => match takeT items o t with
        | .inl e => ([], at_, e)
        | .inr q => parseF f (at_ + n) (l.drop n) q.1 q.2

theorem parseF_more : ∀ (f : Nat) (at_ : Nat) (l : List UInt8) (items : List ItemD) (o : List (List UInt8)) (g : Nat), l.length < f → l.length < g → parseF f at_ l items o = parseF g at_ l items o
  | 0, _, _, _, _, _, h, _ => by omega
  | f + 1, _, l, _, _, 0, _, h => by omega
  | f + 1, at_, l, items, o, g + 1, hf, hg => by
    rw [parseF, parseF]
    by_cases hl : l = []
    · rw [if_pos hl, if_pos hl]
    · rw [if_neg hl, if_neg hl]
      have := oneT_within l hl
      cases ho : oneT l with
      | bad k e => rfl
      | ok t n =>
        rw [ho] at this; obtain ⟨a, b⟩ := this
        simp only
        cases takeT items o t with
        | inl e => rfl
        | inr q => exact parseF_more f (at_ + n) (l.drop n) q.1 q.2 g (by rw [List.length_drop]; omega) (by rw [List.length_drop]; omega)
def parseL (at_ : Nat) (l : List UInt8) (items : List ItemD) (o : List (List UInt8)) : List ItemD × Nat × Int := parseF (l.length + 1) at_ l items o
theorem parseL_nil (at_ : Nat) (items : List ItemD) (o : List (List UInt8)) : parseL at_ [] items o = endP items o at_ := by simp [parseL, parseF]
theorem parseL_bad (at_ : Nat) (l : List UInt8) (items : List ItemD) (o : List (List UInt8)) (h : l ≠ []) (k : Nat) (e : Int) (ho : oneT l = .bad k e) : parseL at_ l items o = ([], at_ + k, e) := by
  unfold parseL; rw [parseF, if_neg h, ho]
theorem parseL_no (at_ : Nat) (l : List UInt8) (items : List ItemD) (o : List (List UInt8)) (h : l ≠ []) (t : TokD) (n : Nat) (ho : oneT l = .ok t n) (e : Int) (ht : takeT items o t = .inl e) : parseL at_ l items o = ([], at_, e) := by
  unfold parseL; rw [parseF, if_neg h, ho]; simp only [ht]
theorem parseL_step (at_ : Nat) (l : List UInt8) (items : List ItemD) (o : List (List UInt8)) (h : l ≠ []) (t : TokD) (n : Nat) (ho : oneT l = .ok t n) (q : List ItemD × List (List UInt8)) (ht : takeT items o t = .inr q) : parseL at_ l items o = parseL (at_ + n) (l.drop n) q.1 q.2 := by
  unfold parseL
  have := oneT_within l h
  rw [ho] at this
  obtain ⟨c, d⟩ := this
  rw [parseF, if_neg h, ho]
  simp only [ht]
  exact parseF_more _ _ _ _ _ _ (by rw [List.length_drop]; omega) (by omega)

/-! ## What was read is a document -/
theorem names_rise : ∀ (l : List AttrD) (last : List UInt8), Rise l → (∀ a ∈ l, nameL a.name = true) → (∀ a ∈ l, Op.bytesLess last a.name = true) → attrNames last l = true
  | [], _, _, _, _ => rfl
  | a :: r, last, hr, hn, hl => by
    obtain ⟨h1, h2⟩ := List.pairwise_cons.1 hr
    have hla := hl a (by simp)
    have hle : leB a.name last = false := by
      unfold leB
      rw [less_asymm hla]
      have := less_ne hla
      simp [Ne.symm this]
    rw [attrNames, hn a (by simp), hle, names_rise r a.name h2 (fun b hb => hn b (by simp [hb])) h1]
    rfl
theorem values_fine : ∀ (l : List AttrD), (∀ a ∈ l, charsE a.value = 0) → valuesE l = 0
  | [], _ => rfl
  | a :: r, h => by rw [valuesE, if_pos (h a (by simp))]; exact values_fine r (fun b hb => h b (by simp [hb]))
theorem less_nil {x : List UInt8} (h : x ≠ []) : Op.bytesLess [] x = true := by
  cases x with
  | nil => exact absurd rfl h
  | cons a x => simp [Op.bytesLess]
theorem itemOf_parts {l : List UInt8} {t : TokD} {n : Nat} (h : oneT l = .ok t n) (_hk : t.kind ≠ 2) (m : Nat) : partsE (itemOf m t) = 0 := by
  obtain ⟨h1, h2, h3, h4, h5, h6⟩ := tok_parts h
  have hkind : t.kind = 4 ∨ t.kind < 4 := by
    rcases oneT_fine h with ⟨hk, _⟩ | ⟨hk, _⟩ | ⟨hk, _⟩ <;> omega
  unfold itemOf
  rcases hkind with hk4 | hk4
  · rw [if_pos hk4]
    unfold partsE
    simp only
    rw [if_pos ⟨trivial, trivial, trivial⟩]
    exact h3
  · rw [if_neg (by omega)]
    unfold partsE
    simp only
    rw [if_neg (by intro h; exact absurd h.1 (by decide)), if_neg (by intro h; rcases h with h | h; exact h rfl; exact h rfl)]
    have hns : namesE ⟨m, 1, t.name, [], t.attrs⟩ = 0 := by
      unfold namesE
      rw [h1 hk4, names_rise t.attrs [] h5 (fun a ha => (h6 a ha).1) (fun a ha => less_nil (name_bytes (h6 a ha).1).1), if_pos (by decide), if_neg (by show ¬ 20 < t.attrs.length; omega)]
    rw [if_pos hns]
    exact values_fine _ (fun a ha => (h6 a ha).2)

/-- what holds of the items and of what is open, all along -/
structure Read (items : List ItemD) (o : List (List UInt8)) : Prop where
  many : items.length ≤ 1000
  parts : ∀ x ∈ items, partsE x = 0
  place : ∀ (k : Nat) (x : ItemD), items[k]? = some x → placeE (prevOf items k) k x = 0
  deep : o.length ≤ 40
  cap : ∀ x, items.getLast? = some x → (o.length : Int) ≤ cap x
  none : items = [] → o = []
theorem read_nil : Read [] [] := ⟨by simp, fun _ h => (by cases h), fun _ _ h => (by simp at h), by simp, fun _ h => (by simp at h), fun _ => rfl⟩
theorem getLast_prev {α : Type} {l : List α} {x : α} (h : l.getLast? = some x) : l[l.length - 1]? = some x := by rw [← List.getLast?_eq_getElem?]; exact h
theorem read_step {l : List UInt8} {t : TokD} {n : Nat} (ho : oneT l = .ok t n) {items : List ItemD} {o : List (List UInt8)} (h : Read items o) {q : List ItemD × List (List UInt8)} (ht : takeT items o t = .inr q) : Read q.1 q.2 := by
  unfold takeT at ht
  split at ht
  · split at ht
    · injection ht with ht
      subst ht
      refine ⟨h.many, h.parts, h.place, ?_, fun x hx => ?_, fun e => ?_⟩
      · have := h.deep; simp only [List.length_dropLast]; omega
      · have := h.cap x hx; simp only [List.length_dropLast]; omega
      · have := h.none e; simp only [this]; rfl
    · cases ht
  rename_i hk2
  split at ht
  · cases ht
  rename_i he
  injection ht with ht
  subst ht
  simp only at *
  have he : addE items o t.kind = 0 := by simpa using he
  unfold addE at he
  split at he
  · cases he
  rename_i h1
  split at he
  · cases he
  rename_i h2
  split at he
  · cases he
  rename_i h3
  have hlev : (itemOf o.length t).level = o.length := by unfold itemOf; split <;> rfl
  have hkind : (itemOf o.length t).kind = if t.kind = 4 then 2 else 1 := by unfold itemOf; split <;> rfl
  refine ⟨by simp; omega, fun x hx => ?_, fun k x hx => ?_, ?_, fun x hx => ?_, fun e => ?_⟩
  · rcases List.mem_append.1 hx with hx | hx
    · exact h.parts x hx
    · simp at hx; subst hx; exact itemOf_parts ho hk2 _
  · by_cases hkl : k < items.length
    · rw [List.getElem?_append_left hkl] at hx
      have := h.place k x hx
      have e : prevOf (items ++ [itemOf o.length t]) k = prevOf items k := by
        unfold prevOf
        split
        · rfl
        · exact List.getElem?_append_left (by omega)
      rw [e]; exact this
    · have hkl' : k = items.length := by
        have := (List.getElem?_eq_some_iff.1 hx).1
        simp at this; omega
      subst hkl'
      rw [List.getElem?_append_right (Nat.le_refl _)] at hx
      simp at hx
      subst hx
      by_cases hi : items = []
      · subst hi
        have ho0 : o = [] := h.none rfl
        have hk4 : t.kind ≠ 4 := fun e => h1 ⟨ho0, .inl e⟩
        have e : prevOf ([] ++ [itemOf o.length t]) ([] : List ItemD).length = none := rfl
        rw [e]
        unfold placeE
        simp only [hlev, hkind]
        rw [if_neg]
        rw [if_neg hk4, ho0]
        simp
      · have hlt : 0 < items.length := List.length_pos_iff.2 hi
        obtain ⟨p, hp⟩ : ∃ p, items.getLast? = some p := by
          cases hg : items.getLast? with
          | none => rw [List.getLast?_eq_none_iff] at hg; exact absurd hg hi
          | some p => exact ⟨p, rfl⟩
        have e : prevOf (items ++ [itemOf o.length t]) items.length = some p := by
          unfold prevOf
          rw [if_neg (by omega), List.getElem?_append_left (by omega)]
          exact getLast_prev hp
        have hone : o ≠ [] := fun e => h1 ⟨e, .inr hi⟩
        have hol : 0 < o.length := List.length_pos_iff.2 hone
        have hcap := h.cap p hp
        unfold cap at hcap
        rw [e]
        unfold placeE
        simp only [hlev]
        rw [if_neg, if_neg (by omega), if_neg (by omega)]
        intro hh
        split at hcap <;> omega
  · split
    · simp only [List.length_append, List.length_singleton]; omega
    · omega
  · rw [List.getLast?_append] at hx
    simp at hx
    subst hx
    unfold cap
    rw [hkind, hlev]
    by_cases hk1 : t.kind = 1
    · rw [if_pos hk1, if_neg (by omega : ¬ t.kind = 4)]; simp
    · rw [if_neg hk1]
      split <;> omega
  · simp at e

theorem checkF_zero : ∀ (l : List ItemD) (prev : Option ItemD) (k : Nat), (∀ (j : Nat) (x : ItemD), l[j]? = some x → oneE (if j = 0 then prev else l[j - 1]?) (k + j) x = 0) → checkF prev k l = (0, 0)
  | [], _, _, _ => rfl
  | y :: r, prev, k, h => by
    have h0 := h 0 y rfl
    simp only [if_true, Nat.add_zero] at h0
    rw [checkF, if_pos h0]
    refine checkF_zero r (some y) (k + 1) (fun j x hx => ?_)
    have := h (j + 1) x (by simpa using hx)
    rw [if_neg (by omega)] at this
    have e : (y :: r)[j + 1 - 1]? = if j = 0 then some y else r[j - 1]? := by
      cases j with
      | zero => rfl
      | succ j => simp
    rw [e, show k + (j + 1) = k + 1 + j by omega] at this
    exact this
theorem Read.check {items : List ItemD} {o : List (List UInt8)} (h : Read items o) (hne : items ≠ []) : checkL items = (0, 0) := by
  unfold checkL
  rw [if_neg hne]
  refine checkF_zero _ _ _ (fun j x hx => ?_)
  have h1 := h.place j x hx
  have h2 := h.parts x (List.mem_of_getElem? hx)
  unfold oneE
  rw [Nat.zero_add]
  have e : (if j = 0 then Option.none else items[j - 1]?) = prevOf items j := rfl
  rw [e, if_pos h1]; exact h2
theorem parse_check : ∀ (k : Nat) (l : List UInt8) (at_ : Nat) (items : List ItemD) (o : List (List UInt8)), l.length ≤ k → Read items o → (parseL at_ l items o).2.2 = 0 → checkL (parseL at_ l items o).1 = (0, 0)
  | k, l, at_, items, o, hk, hr, h => by
    by_cases hl : l = []
    · subst hl
      rw [parseL_nil] at h ⊢
      unfold endP at h ⊢
      split at h
      · cases h
      rename_i hne
      rw [if_neg hne]
      split at h
      · cases h
      rename_i ho
      rw [if_neg ho]
      exact hr.check hne
    · cases ho : oneT l with
      | bad j e =>
        exfalso
        rw [parseL_bad at_ l items o hl j e ho] at h
        have := oneT_within l hl
        rw [ho] at this
        exact this.2 h
      | ok t n =>
        have hw := oneT_within l hl
        rw [ho] at hw
        obtain ⟨hw1, hw2⟩ := hw
        cases ht : takeT items o t with
        | inl e =>
          exfalso
          rw [parseL_no at_ l items o hl t n ho e ht] at h
          have he : e = 0 := h
          subst he
          unfold takeT at ht
          split at ht
          · split at ht
            · cases ht
            · injection ht with ht; omega
          · split at ht
            · rename_i hne; injection ht with ht; exact hne ht
            · cases ht
        | inr q =>
          rw [parseL_step at_ l items o hl t n ho q ht] at h ⊢
          match k, hk with
          | 0, hk => exact absurd (List.eq_nil_of_length_eq_zero (by omega)) hl
          | k + 1, hk => exact parse_check k (l.drop n) (at_ + n) q.1 q.2 (by rw [List.length_drop]; omega) (read_step ho hr ht) h
end Go.Proofs.Ythifddkmbjnncaa

/-
  The reader of documents: its block; what is open; the walks of close, add, take.
-/
namespace Go.Proofs.Ythifddkmbjnncaa
open Go.RowKit

theorem infoStr : (Try.prog.info? 9).map (fun i => (i.zero, i.size, i.bytes)) = some (some (.string ByteArray.empty), 1, 16) := by kernel_rfl

/-- Names in a row that is the call's own, or that is full (what was cut off behind it is nobody's). -/
def OpenOwn (w : World) (B : Nat) (A : Option Addr) (c : Nat) (o : List (List UInt8)) : Prop :=
  (A = none ∧ c = 0 ∧ o = []) ∨ ∃ g cur, A = some ⟨g, 0, none⟩ ∧ B ≤ g ∧ w.heap[g]? = some (.cells cur 9 (0, 0)) ∧ o.length ≤ c ∧ c ≤ cur.size ∧ cur.size ≤ maxLen ∧ cur.toList.take o.length = o.map strV ∧ (c = o.length ∨ c = cur.size)

theorem flat1 (o : List (List UInt8)) : o.map strV = o.flatMap fun n => [strV n] := by
  induction o with
  | nil => rfl
  | cons a o ih => simp [ih]

section
variable {w w' : World} {B : Nat} {A : Option Addr} {c : Nat} {o : List (List UInt8)}
theorem OpenOwn.keep (h : OpenOwn w B A c o) (hk : ∀ g cur, A = some ⟨g, 0, none⟩ → w.heap[g]? = some (.cells cur 9 (0, 0)) → w'.heap[g]? = w.heap[g]?) : OpenOwn w' B A c o := by
  rcases h with h | ⟨g, cur, h1, h2, h3, h4⟩
  · exact .inl h
  · exact .inr ⟨g, cur, h1, h2, (hk g cur h1 h3).trans h3, h4⟩
theorem OpenOwn.below (h : OpenOwn w B A c o) (hb : Below w.heap.size w w') : OpenOwn w' B A c o := h.keep fun g _ _ h3 => hb.block g (Array.getElem?_eq_some_iff.1 h3).1
/-- it stands where a block of another type grows or is written -/
theorem OpenOwn.grown (h : OpenOwn w B A c o) {k : Option Nat} (hg : w.grownBy w' k) (hk : ∀ g, k = some g → g < w.heap.size → ∃ cs e, w.heap[g]? = some (.cells cs e (0, 0)) ∧ e ≠ 9) : OpenOwn w' B A c o := h.keep fun g cur _ h3 => by
  have hlt : g < w.heap.size := (Array.getElem?_eq_some_iff.1 h3).1
  refine hg.block g hlt fun e => ?_
  obtain ⟨cs, e', h5, h6⟩ := hk g e.symm hlt
  rw [h3] at h5
  injection h5 with h5
  injection h5 with _ h5
  exact h6 h5.symm
theorem OpenOwn.own (h : w.ownsRow B 9 1 (.slice A o.length c) o.length (o.map strV)) : OpenOwn w B A c o := by
  rcases h.2 with ⟨h1, h2⟩ | ⟨g, cap, cur, h1, h2, h3, h4, h5, h6, h7⟩
  · injection h1 with h1 _ h3
    exact .inl ⟨h1, h3, List.eq_nil_of_length_eq_zero h2⟩
  · injection h1 with h1 _ h8
    subst h8
    rw [Nat.mul_one] at h6 h7
    exact .inr ⟨g, cur, h1, h2, h3, h4, by omega, by omega, h7, .inr h6.symm⟩
theorem OpenOwn.last (h : OpenOwn w B A c o) {k : Nat} {n : List UInt8} (hn : o[k]? = some n) : ∃ g, A = some ⟨g, 0, none⟩ ∧ g < w.heap.size ∧ w.cell? ⟨g, k, none⟩ = some (.string ⟨n.toArray⟩) := by
  rcases h with ⟨_, _, rfl⟩ | ⟨g, cur, h1, h2, h3, h4, h5, h6, h7, _⟩
  · simp at hn
  · refine ⟨g, h1, (Array.getElem?_eq_some_iff.1 h3).1, ?_⟩
    have hk : k < o.length := (List.getElem?_eq_some_iff.1 hn).1
    have h8 : (cur.toList.take o.length)[k]? = (o.map strV)[k]? := by rw [h7]
    rw [List.getElem?_take_of_lt hk, List.getElem?_map, hn, Array.getElem?_toList] at h8
    rw [cell_of_row h3, h8]; rfl
theorem OpenOwn.cut (h : OpenOwn w B A c o) (ho : o ≠ []) : OpenOwn w B A (o.length - 1) o.dropLast := by
  rcases h with ⟨_, _, h⟩ | ⟨g, cur, h1, h2, h3, h4, h5, h6, h7, _⟩
  · exact absurd h ho
  · refine .inr ⟨g, cur, h1, h2, h3, by simp, by omega, h6, ?_, .inl (by simp)⟩
    have := congrArg (List.take (o.length - 1)) h7
    rw [List.take_take, Nat.min_eq_left (Nat.sub_le _ _)] at this
    rw [List.length_dropLast, this, List.dropLast_eq_take, List.map_take]
theorem OpenOwn.cap (h : OpenOwn w B A c o) : o.length ≤ c := by
  rcases h with ⟨_, _, rfl⟩ | ⟨g, cur, h1, h2, h3, h4, _⟩
  · exact Nat.zero_le _
  · exact h4
theorem OpenOwn.capMax (h : OpenOwn w B A c o) : c ≤ maxLen := by
  rcases h with ⟨_, h, _⟩ | ⟨g, cur, h1, h2, h3, h4, h5, h6, _⟩
  · omega
  · omega
end

set_option maxRecDepth 100000 in
theorem appendO {w : World} {ops : Array Oper} {rest : List Oper} {op : Oper} {a : Act} {Q : Exit → Act → World → Prop} (hgd : op.guard = none) (s x : Operand)
    (hop : op.op = .call { callee := .builtin .append, args := #[s, x], argTypes := #[69, 69] })
    (B : Nat) (A : Option Addr) (c : Nat) (o : List (List UInt8)) (n : List UInt8) (hs : a.eval s = .slice A o.length c) (hown : OpenOwn w B A c o) (hB : B ≤ w.heap.size)
    (X : Nat) (hx : a.eval x = .slice (some ⟨X, 0, none⟩) 1 1) (hX : X = w.heap.size) (hn : o.length < 4294967296)
    (h : ∀ A' c' w', OpenOwn w' B A' c' (o ++ [n]) → Below B w w' → (w.alloc (.cells #[strV n] 9)).grownBy w' (Value.slice A o.length c).ownBlock → wpList Try.prog ops Q rest (a.put op.dst (.slice A' (o.length + 1) c')) w') :
    wpList Try.prog ops Q (op :: rest) a (w.alloc (.cells #[strV n] 9)) := by
  have hlen : (o ++ [n]).length = o.length + 1 := by simp
  rcases hown with ⟨rfl, rfl, rfl⟩ | ⟨g, cur, rfl, h2, h3, h4, h5, h6, h7, h8⟩
  · refine appendS hgd s x 69 hop B 9 (.string ByteArray.empty) 1 16 Try.underlying69 infoStr rfl (by decide) _ 0 [] hs (World.ownsRow_nil _ _ _ _) hB X hx hX (news := [strV n]) rfl (by intro u hu; simp at hu; subst hu; rfl) (by omega) (by decide) ?_
    intro ad cc w' hown' hb _ hg
    exact h ad cc w' (OpenOwn.own (o := [n]) hown') hb hg
  · by_cases hc : c = cur.size
    · have hrow : w.ownsRow B 9 1 (.slice (some ⟨g, 0, none⟩) o.length c) o.length (o.map strV) :=
        ⟨by simp, .inr ⟨g, c, cur, rfl, h2, h3, h4, by omega, by omega, by rw [Nat.mul_one]; exact h7⟩⟩
      refine appendS hgd s x 69 hop B 9 (.string ByteArray.empty) 1 16 Try.underlying69 infoStr rfl (by decide) _ o.length (o.map strV) hs hrow hB X hx hX (news := [strV n]) rfl (by intro u hu; simp at hu; subst hu; rfl) hn (by decide) ?_
      intro ad cc w' hown' hb _ hg
      refine h ad cc w' (OpenOwn.own ?_) hb hg
      rw [hlen, List.map_append]
      exact hown'
    · have hcn : c = o.length := by
        rcases h8 with h8 | h8
        · exact h8
        · exact absurd h8 hc
      subst hX
      obtain ⟨i0, hi0, hz0, hz1, hz2⟩ := info_parts infoStr
      have hg : g < w.heap.size := (Array.getElem?_eq_some_iff.1 h3).1
      refine wpList_append_grows _ hgd s x 69 hop 9 i0 (.string ByteArray.empty) 1 16 Try.underlying69 hi0 hz0 hz1 hz2 rfl (by decide) (some ⟨g, 0, none⟩) o.length c (o.map strV) hs (fun e => by cases e) (by simp) ?_ ⟨w.heap.size, 0, none⟩ 1 1 [strV n] hx rfl ?_ (by intro u hu; simp at hu; subst hu; rfl) (by omega) (by unfold maxLen; omega) (by omega) ?_
      · rintro b hb j u hu
        injection hb with hb
        subst hb
        rw [add_zero_block, World.cell?_alloc_lt _ _ _ hg, cell_of_row h3]
        have hj : j < o.length := by have := (List.getElem?_eq_some_iff.1 hu).1; simpa using this
        rw [← h7, List.getElem?_take_of_lt hj, Array.getElem?_toList] at hu
        exact hu
      · intro j u hu
        rw [add_zero_block, World.cell?_alloc_at _ _ _ _ (by simp)]
        have hj : j < 1 := (List.getElem?_eq_some_iff.1 hu).1
        have hj0 : j = 0 := by omega
        subst hj0
        simpa using hu
      · intro v' w' hown' hgr
        obtain ⟨ad, cc, rfl⟩ : ∃ ad cc, v' = .slice ad (o.length + 1) cc := by
          rcases hown'.2 with ⟨_, h0⟩ | ⟨g, c, cur, hv, _⟩
          · omega
          · exact ⟨_, c, hv⟩
        refine h ad cc w' ?_ (((Below.refl B w).alloc hB _).grown hgr (by simp; omega) (fun k hk => by cases hk)) ⟨hgr.os, hgr.tape, hgr.output, hgr.size, fun k hk _ => hgr.block k hk (by simp)⟩
        refine OpenOwn.own ?_
        rw [hlen, List.map_append]
        exact row_base hown' (by simp; omega)
end Go.Proofs.Ythifddkmbjnncaa

/-
  The reader of documents: the walk of close.
-/
namespace Go.Proofs.Ythifddkmbjnncaa
open Go.RowKit

/-- the reader's block -/
def PBlk (w : World) (b : Nat) (IA : Option Addr) (In Ic : Nat) (OA : Option Addr) (On Oc : Nat) : Prop := w.heap[b]? = some (.cells #[.slice IA In Ic, .slice OA On Oc] 71 (0, 0))
/-- what it holds -/
structure PInv (w : World) (B b : Nat) (items : List ItemD) (o : List (List UInt8)) : Prop where
  out : ∃ (S : List Slot) (IA : Option Addr) (Ic : Nat) (OA : Option Addr) (Oc : Nat), PBlk w b IA S.length Ic OA o.length Oc ∧ ItemsOwn w B IA Ic S ∧ (∀ s ∈ S, AttrsOwn w B s.2.1 s.2.2 s.1.attrs) ∧ OpenOwn w B OA Oc o ∧ S.map (·.1) = items
theorem PBlk.lt {w : World} {b : Nat} {IA OA : Option Addr} {In Ic On Oc : Nat} (h : PBlk w b IA In Ic OA On Oc) : b < w.heap.size := (Array.getElem?_eq_some_iff.1 h).1
theorem PBlk.cells {w : World} {b : Nat} {IA OA : Option Addr} {In Ic On Oc : Nat} (h : PBlk w b IA In Ic OA On Oc) : w.cell? ⟨b, 0, none⟩ = some (.slice IA In Ic) ∧ w.cell? ⟨b, 1, none⟩ = some (.slice OA On Oc) ∧ w.frozen? ⟨b, 0, none⟩ = false ∧ w.frozen? ⟨b, 1, none⟩ = false :=
  ⟨by rw [cell_of_row h]; rfl, by rw [cell_of_row h]; rfl, frozen_of_row w b 0 _ _ h, frozen_of_row w b 1 _ _ h⟩
theorem PBlk.below {w w' : World} {b : Nat} {IA OA : Option Addr} {In Ic On Oc : Nat} (h : PBlk w b IA In Ic OA On Oc) (hb : Below w.heap.size w w') : PBlk w' b IA In Ic OA On Oc := (hb.block b h.lt).trans h
theorem PBlk.setOpen {w : World} {b : Nat} {IA OA : Option Addr} {In Ic On Oc : Nat} (h : PBlk w b IA In Ic OA On Oc) (A : Option Addr) (n c : Nat) : PBlk (w.setCell ⟨b, 1, none⟩ (.slice A n c)) b IA In Ic A n c := Lib.heap_setCell_same (i := 1) h _
theorem PBlk.setItems {w : World} {b : Nat} {IA OA : Option Addr} {In Ic On Oc : Nat} (h : PBlk w b IA In Ic OA On Oc) (A : Option Addr) (n c : Nat) : PBlk (w.setCell ⟨b, 0, none⟩ (.slice A n c)) b A n c OA On Oc := Lib.heap_setCell_same (i := 0) h _
theorem PInv.below {w w' : World} {B b : Nat} {items : List ItemD} {o : List (List UInt8)} (h : PInv w B b items o) (hb : Below w.heap.size w w') : PInv w' B b items o := by
  obtain ⟨S, IA, Ic, OA, Oc, h1, h2, h3, h4, h5⟩ := h.out
  exact ⟨S, IA, Ic, OA, Oc, h1.below hb, own_keep h2 hb, fun s hs => own_keep (h3 s hs) hb, h4.below hb, h5⟩
/-- a row of another type stands where the reader's block is written -/
theorem own_set {w : World} {b j : Nat} {IA OA : Option Addr} {In Ic On Oc : Nat} (hp : PBlk w b IA In Ic OA On Oc) (u : Value) {B : Nat} {e : TypeId} {size : Nat} {v : Value} {n : Nat} {xs : List Value} (h : w.ownsRow B e size v n xs) (he : e ≠ 71) : (w.setCell ⟨b, j, none⟩ u).ownsRow B e size v n xs := by
  refine World.ownsRow.kept h (Lib.grownBy_setCell w b j u) ?_
  cases hv : v.ownBlock with
  | none => exact .inl rfl
  | some g =>
    refine .inr fun hg => ?_
    injection hg with hg
    subst hg
    obtain ⟨_, _, cur, hc⟩ := own_type h g hv
    unfold PBlk at hp
    rw [hc] at hp
    injection hp with hp
    injection hp with _ hp
    exact he hp
theorem open_set {w : World} {b j : Nat} {IA OA : Option Addr} {In Ic On Oc : Nat} (hp : PBlk w b IA In Ic OA On Oc) (u : Value) {B : Nat} {A : Option Addr} {c : Nat} {o : List (List UInt8)} (h : OpenOwn w B A c o) : OpenOwn (w.setCell ⟨b, j, none⟩ u) B A c o :=
  h.grown (Lib.grownBy_setCell w b j u) (fun g hg _ => by injection hg with hg; subst hg; exact ⟨_, _, hp, by decide⟩)

theorem get_last {α : Type} {l : List α} (h : l ≠ []) : ∃ x, l[l.length - 1]? = some x ∧ l.getLast? = some x := by
  have hl : 0 < l.length := List.length_pos_iff.2 h
  refine ⟨l[l.length - 1], List.getElem?_eq_getElem (by omega), ?_⟩
  rw [List.getLast?_eq_getElem?]; exact List.getElem?_eq_getElem (by omega)

def tokV (t : TokD) (at_ : Int) (A : Option Addr) (c : Nat) : Value := .agg #[.int .i64 t.kind, .int .i64 at_, .string ⟨t.name.toArray⟩, .string ⟨t.text.toArray⟩, .slice A t.attrs.length c]



set_option maxRecDepth 100000 in
set_option maxHeartbeats 1000000 in
theorem close_any (b B : Nat) (items : List ItemD) (o : List (List UInt8)) (w : World) (h : PInv w B b items o) (hB : B ≤ b) (hBw : B ≤ w.heap.size) (ho : o.length ≤ 1000000000) (t : TokD) (at_ : Int) (A : Option Addr) (c : Nat) (v : Bool) (hv : Hid (decide (o.getLast? = some t.name) = v)) :
    Calls Try.prog 80 #[.pointer (some ⟨b, 0, none⟩), tokV t at_ A c] w fun e w' => e = .returned (.int .i64 (if v then 0 else 41)) ∧ PInv w' B b items (if v then o.dropLast else o) ∧ Below B w w' := by
  obtain ⟨S, IA, Ic, OA, Oc, h1, h2, h3, h4, h5⟩ := h.out
  have HP := Lib.hid h
  obtain ⟨W1, hW1⟩ : ∃ W1, Hid (W1 = w.alloc (.cells #[.int .i64 t.kind, .int .i64 at_, .string ⟨t.name.toArray⟩, .string ⟨t.text.toArray⟩, .slice A t.attrs.length c] 34)) := ⟨_, rfl⟩
  have hbW : Below w.heap.size w W1 := by rw [hW1.out]; exact (Below.refl _ w).alloc (Nat.le_refl _) _
  have y2 : W1.cell? ⟨w.heap.size, 2, none⟩ = some (.string ⟨t.name.toArray⟩) := by rw [hW1.out, World.cell?_alloc_at _ _ _ _ (by simp)]; rfl
  have HB1 := Lib.hid (h1.below hbW)
  have H2 := Lib.hid (own_keep h2 hbW)
  have H3 : Hid (∀ s ∈ S, AttrsOwn W1 B s.2.1 s.2.2 s.1.attrs) := fun s hs => own_keep (h3 s hs) hbW
  have H4 := Lib.hid (h4.below hbW)
  have H5 := Lib.hid h5
  have hz1 : w.heap.size < W1.heap.size := by rw [hW1.out]; simp
  obtain ⟨_, z1, _, zf1⟩ := h1.cells
  have hbl := h1.lt
  have hbne : b ≠ w.heap.size := by omega
  have H4w := Lib.hid h4
  clear h h1 h2 h3 h4 h5
  show Calls Try.prog 80 #[.pointer (some ⟨b, 0, none⟩), .agg #[.int .i64 t.kind, .int .i64 at_, .string ⟨t.name.toArray⟩, .string ⟨t.text.toArray⟩, .slice A t.attrs.length c]] w _
  by_cases h0 : o = []
  · subst h0
    have hv' : v = false := by rw [← hv.out]; simp
    subst hv'
    simp only [List.length_nil] at z1
    go_enter Try.func80, Try.ntmps80
    go_wp2_with fail
    rw [← hW1.out]
    refine wp_region_held_drew (S := fun _ => True) (by kernel_rfl) trivial (fun hHeld => ?_)
    refine tks (oi := ⟨_, _, _, _, _, _⟩) (v := ?_) 0 rfl (.inl ⟨by rfl, ?_⟩) ?_; rotate_left
    · (intro wS hSw; (try dsimp only at hSw); go_simp); all_goals with_reducible rfl
    try go_frame
    refine tks (oi := ⟨_, _, _, _, _, _⟩) (v := ?_) 1 rfl (.inl ⟨by rfl, ?_⟩) ?_; rotate_left
    · (intro wS hSw; (try dsimp only at hSw); go_simp); all_goals with_reducible rfl
    try go_frame
    refine tks (oi := ⟨_, _, _, _, _, _⟩) (v := ?_) 2 rfl (.inl ⟨by rfl, ?_⟩) ?_; rotate_left
    · (intro wS hSw; (try dsimp only at hSw); go_simp); all_goals with_reducible rfl
    try go_frame
    refine tks (oi := ⟨_, _, _, _, _, _⟩) (v := undef) 3 rfl (.inr ⟨by rfl, rfl⟩) ?_
    try go_frame
    refine tks (oi := ⟨_, _, _, _, _, _⟩) (v := undef) 4 rfl (.inr ⟨by rfl, rfl⟩) ?_
    try go_frame
    refine tks (oi := ⟨_, _, _, _, _, _⟩) (v := undef) 5 rfl (.inr ⟨by rfl, rfl⟩) ?_
    try go_frame
    refine tks (oi := ⟨_, _, _, _, _, _⟩) (v := undef) 6 rfl (.inr ⟨by rfl, rfl⟩) ?_
    try go_frame
    refine tks (oi := ⟨_, _, _, _, _, _⟩) (v := undef) 7 rfl (.inr ⟨by rfl, rfl⟩) ?_
    try go_frame
    refine tks (oi := ⟨_, _, _, _, _, _⟩) (v := undef) 8 rfl (.inr ⟨by rfl, rfl⟩) ?_
    try go_frame
    refine tks (oi := ⟨_, _, _, _, _, _⟩) (v := undef) 9 rfl (.inr ⟨by rfl, rfl⟩) ?_
    try go_frame
    refine tks (oi := ⟨_, _, _, _, _, _⟩) (v := undef) 10 rfl (.inr ⟨by rfl, rfl⟩) ?_
    try go_frame
    refine tks (oi := ⟨_, _, _, _, _, _⟩) (v := undef) 11 rfl (.inr ⟨by rfl, rfl⟩) ?_
    try go_frame
    refine tks (oi := ⟨_, _, _, _, _, _⟩) (v := undef) 12 rfl (.inr ⟨by rfl, rfl⟩) ?_
    try go_frame
    refine tks (oi := ⟨_, _, _, _, _, _⟩) (v := undef) 13 rfl (.inr ⟨by rfl, rfl⟩) ?_
    try go_frame
    refine tks (oi := ⟨_, _, _, _, _, _⟩) (v := ?_) 14 rfl (.inl ⟨by rfl, ?_⟩) ?_; rotate_left
    · (intro wS hSw; (try dsimp only at hSw); go_simp); all_goals with_reducible rfl
    try go_frame
    refine wpAnyH_done (by kernel_rfl) ?_ _
    clear hHeld
    go_wp2_with fail
    go_ret
    exact ⟨rfl, ⟨S, IA, Ic, _, Oc, HB1.out, H2.out, H3.out, H4.out, H5.out⟩, (hbW.mono hBw).drew⟩
  · obtain ⟨x, hx, hxl⟩ := get_last h0
    obtain ⟨g, rfl, hg, hcell⟩ := H4w.out.last hx
    have hpos : 0 < o.length := List.length_pos_iff.2 h0
    have t0 : ((o.length : Int) == 0) = false := by simp; omega
    have hkw : IntKind.i64.wrap ((o.length : Int) - 1) = (o.length : Int) - 1 := IntWalk.i64_in _ (by omega)
    have hkn : ((o.length : Int) - 1).toNat = o.length - 1 := by omega
    have hk0 : (0 : Int) ≤ (o.length : Int) - 1 := by omega
    have hk1 : (o.length : Int) - 1 < o.length := by omega
    have hk2 : (1 : Int) ≤ o.length := by omega
    have hg1 : W1.cell? ⟨g, o.length - 1, none⟩ = some (.string ⟨x.toArray⟩) := (hbW.cell (p := ⟨g, o.length - 1, none⟩) hg).trans hcell
    have HS : Hid (W1.drew.cell? ⟨b, 1, none⟩ = some (.slice (some ⟨g, 0, none⟩) o.length Oc) ∧ W1.drew.cell? ((⟨g, 0, none⟩ : Addr).add (o.length - 1)) = some (.string ⟨x.toArray⟩) ∧ W1.drew.cell? ⟨g, o.length - 1, none⟩ = some (.string ⟨x.toArray⟩) ∧ W1.drew.cell? ⟨w.heap.size, 2, none⟩ = some (.string ⟨t.name.toArray⟩)) :=
      ⟨HB1.out.cells.2.1, by rw [add_zero_block]; exact hg1, hg1, y2⟩
    have hne := Lib.hid h0
    clear h0 hg1 y2
    cases v with
    | true =>
      have hxx : x = t.name := by
        have := of_decide_eq_true hv.out
        rw [hxl] at this
        injection this
      subst hxx
      clear hx hcell
      go_enter Try.func80, Try.ntmps80
      go_wp2_with fail
      rw [← hW1.out]
      refine wp_region_held_drew (S := fun w' => w'.cell? ⟨b, 1, none⟩ = some (.slice (some ⟨g, 0, none⟩) o.length Oc) ∧ w'.cell? ((⟨g, 0, none⟩ : Addr).add (o.length - 1)) = some (.string ⟨t.name.toArray⟩) ∧ w'.cell? ⟨g, o.length - 1, none⟩ = some (.string ⟨t.name.toArray⟩) ∧ w'.cell? ⟨w.heap.size, 2, none⟩ = some (.string ⟨t.name.toArray⟩)) (by kernel_rfl) HS.out (fun hHeld => ?_)
      refine tks (oi := ⟨_, _, _, _, _, _⟩) (v := ?_) 0 rfl (.inl ⟨by rfl, ?_⟩) ?_; rotate_left
      · (intro wS hSw; (try dsimp only at hSw); go_simp); all_goals with_reducible rfl
      try go_frame
      refine tks (oi := ⟨_, _, _, _, _, _⟩) (v := ?_) 1 rfl (.inl ⟨by rfl, ?_⟩) ?_; rotate_left
      · (intro wS hSw; (try dsimp only at hSw); go_simp); all_goals with_reducible rfl
      try go_frame
      refine tks (oi := ⟨_, _, _, _, _, _⟩) (v := ?_) 2 rfl (.inl ⟨by rfl, ?_⟩) ?_; rotate_left
      · (intro wS hSw; (try dsimp only at hSw); go_simp); all_goals with_reducible rfl
      try go_frame
      refine tks (oi := ⟨_, _, _, _, _, _⟩) (v := ?_) 3 rfl (.inl ⟨by rfl, ?_⟩) ?_; rotate_left
      · (intro wS hSw; (try dsimp only at hSw); go_simp); all_goals with_reducible rfl
      try go_frame
      refine tks (oi := ⟨_, _, _, _, _, _⟩) (v := ?_) 4 rfl (.inl ⟨by rfl, ?_⟩) ?_; rotate_left
      · (intro wS hSw; (try dsimp only at hSw); go_simp); all_goals with_reducible rfl
      try go_frame
      refine tks (oi := ⟨_, _, _, _, _, _⟩) (v := ?_) 5 rfl (.inl ⟨by rfl, ?_⟩) ?_; rotate_left
      · (intro wS hSw; (try dsimp only at hSw); go_simp); all_goals with_reducible rfl
      try go_frame
      refine tks (oi := ⟨_, _, _, _, _, _⟩) (v := ?_) 6 rfl (.inl ⟨by rfl, ?_⟩) ?_; rotate_left
      · (intro wS hSw; (try dsimp only at hSw); go_simp); all_goals with_reducible rfl
      try go_frame
      refine tks (oi := ⟨_, _, _, _, _, _⟩) (v := ?_) 7 rfl (.inl ⟨by rfl, ?_⟩) ?_; rotate_left
      · (intro wS hSw; (try dsimp only at hSw); go_simp); all_goals with_reducible rfl
      try go_frame
      refine tks (oi := ⟨_, _, _, _, _, _⟩) (v := ?_) 8 rfl (.inl ⟨by rfl, ?_⟩) ?_; rotate_left
      · (intro wS hSw; (try dsimp only at hSw); go_simp); all_goals with_reducible rfl
      try go_frame
      refine tks (oi := ⟨_, _, _, _, _, _⟩) (v := ?_) 9 rfl (.inl ⟨by rfl, ?_⟩) ?_; rotate_left
      · (intro wS hSw; (try dsimp only at hSw); go_simp); all_goals with_reducible rfl
      try go_frame
      refine tks (oi := ⟨_, _, _, _, _, _⟩) (v := ?_) 10 rfl (.inl ⟨by rfl, ?_⟩) ?_; rotate_left
      · (intro wS hSw; (try dsimp only at hSw); go_simp); all_goals with_reducible rfl
      try go_frame
      refine tks (oi := ⟨_, _, _, _, _, _⟩) (v := ?_) 11 rfl (.inl ⟨by rfl, ?_⟩) ?_; rotate_left
      · (intro wS hSw; (try dsimp only at hSw); go_simp); all_goals with_reducible rfl
      try go_frame
      refine tks (oi := ⟨_, _, _, _, _, _⟩) (v := ?_) 12 rfl (.inl ⟨by rfl, ?_⟩) ?_; rotate_left
      · (intro wS hSw; (try dsimp only at hSw); go_simp); all_goals with_reducible rfl
      try go_frame
      refine tks (oi := ⟨_, _, _, _, _, _⟩) (v := ?_) 13 rfl (.inl ⟨by rfl, ?_⟩) ?_; rotate_left
      · (intro wS hSw; (try dsimp only at hSw); go_simp); all_goals with_reducible rfl
      try go_frame
      refine tks (oi := ⟨_, _, _, _, _, _⟩) (v := ?_) 14 rfl (.inl ⟨by rfl, ?_⟩) ?_; rotate_left
      · (intro wS hSw; (try dsimp only at hSw); go_simp); all_goals with_reducible rfl
      try go_frame
      refine wpAnyH_done (by kernel_rfl) ?_ _
      clear hHeld
      obtain ⟨q1, _⟩ := HS.out
      have hf : W1.drew.frozen? ⟨b, 1, none⟩ = false := HB1.out.cells.2.2.2
      have hcap := H4.out.cap
      have hcmax := H4.out.capMax
      have hc1 : (o.length : Int) - 1 ≤ (Oc : Int) := by omega
      have hc2 : (Oc : Int) ≤ 9223372036854775807 := by unfold maxLen at hcmax; omega
      clear hcap hcmax
      go_wp2_with fail
      go_ret
      refine ⟨rfl, ⟨S, IA, Ic, some ⟨g, 0, none⟩, o.length - 1, ?_, own_set (w := W1.drew) HB1.out _ H2.out (by decide), fun s hs => own_set (w := W1.drew) HB1.out _ (H3.out s hs) (by decide), open_set (w := W1.drew) HB1.out _ (H4.out.cut hne.out), H5.out⟩, ((hbW.mono hBw).drew).setCell hB _⟩
      have := PBlk.setOpen (w := W1.drew) HB1.out (some ⟨g, 0, none⟩) (o.length - 1) (o.length - 1)
      rw [List.length_dropLast]
      exact this
    | false =>
      have hxx : (x == t.name) = false := by
        have := of_decide_eq_false hv.out
        rw [hxl] at this
        simp only [beq_eq_false_iff_ne, ne_eq]
        exact fun e => this (by rw [e])
      clear hx hcell
      go_enter Try.func80, Try.ntmps80
      go_wp2_with fail
      rw [← hW1.out]
      refine wp_region_held_drew (S := fun w' => w'.cell? ⟨b, 1, none⟩ = some (.slice (some ⟨g, 0, none⟩) o.length Oc) ∧ w'.cell? ((⟨g, 0, none⟩ : Addr).add (o.length - 1)) = some (.string ⟨x.toArray⟩) ∧ w'.cell? ⟨g, o.length - 1, none⟩ = some (.string ⟨x.toArray⟩) ∧ w'.cell? ⟨w.heap.size, 2, none⟩ = some (.string ⟨t.name.toArray⟩)) (by kernel_rfl) HS.out (fun hHeld => ?_)
      refine tks (oi := ⟨_, _, _, _, _, _⟩) (v := ?_) 0 rfl (.inl ⟨by rfl, ?_⟩) ?_; rotate_left
      · (intro wS hSw; (try dsimp only at hSw); go_simp); all_goals with_reducible rfl
      try go_frame
      refine tks (oi := ⟨_, _, _, _, _, _⟩) (v := ?_) 1 rfl (.inl ⟨by rfl, ?_⟩) ?_; rotate_left
      · (intro wS hSw; (try dsimp only at hSw); go_simp); all_goals with_reducible rfl
      try go_frame
      refine tks (oi := ⟨_, _, _, _, _, _⟩) (v := ?_) 2 rfl (.inl ⟨by rfl, ?_⟩) ?_; rotate_left
      · (intro wS hSw; (try dsimp only at hSw); go_simp); all_goals with_reducible rfl
      try go_frame
      refine tks (oi := ⟨_, _, _, _, _, _⟩) (v := ?_) 3 rfl (.inl ⟨by rfl, ?_⟩) ?_; rotate_left
      · (intro wS hSw; (try dsimp only at hSw); go_simp); all_goals with_reducible rfl
      try go_frame
      refine tks (oi := ⟨_, _, _, _, _, _⟩) (v := ?_) 4 rfl (.inl ⟨by rfl, ?_⟩) ?_; rotate_left
      · (intro wS hSw; (try dsimp only at hSw); go_simp); all_goals with_reducible rfl
      try go_frame
      refine tks (oi := ⟨_, _, _, _, _, _⟩) (v := ?_) 5 rfl (.inl ⟨by rfl, ?_⟩) ?_; rotate_left
      · (intro wS hSw; (try dsimp only at hSw); go_simp); all_goals with_reducible rfl
      try go_frame
      refine tks (oi := ⟨_, _, _, _, _, _⟩) (v := ?_) 6 rfl (.inl ⟨by rfl, ?_⟩) ?_; rotate_left
      · (intro wS hSw; (try dsimp only at hSw); go_simp); all_goals with_reducible rfl
      try go_frame
      refine tks (oi := ⟨_, _, _, _, _, _⟩) (v := ?_) 7 rfl (.inl ⟨by rfl, ?_⟩) ?_; rotate_left
      · (intro wS hSw; (try dsimp only at hSw); go_simp); all_goals with_reducible rfl
      try go_frame
      refine tks (oi := ⟨_, _, _, _, _, _⟩) (v := ?_) 8 rfl (.inl ⟨by rfl, ?_⟩) ?_; rotate_left
      · (intro wS hSw; (try dsimp only at hSw); go_simp); all_goals with_reducible rfl
      try go_frame
      refine tks (oi := ⟨_, _, _, _, _, _⟩) (v := ?_) 9 rfl (.inl ⟨by rfl, ?_⟩) ?_; rotate_left
      · (intro wS hSw; (try dsimp only at hSw); go_simp); all_goals with_reducible rfl
      try go_frame
      refine tks (oi := ⟨_, _, _, _, _, _⟩) (v := ?_) 10 rfl (.inl ⟨by rfl, ?_⟩) ?_; rotate_left
      · (intro wS hSw; (try dsimp only at hSw); go_simp); all_goals with_reducible rfl
      try go_frame
      refine tks (oi := ⟨_, _, _, _, _, _⟩) (v := ?_) 11 rfl (.inl ⟨by rfl, ?_⟩) ?_; rotate_left
      · (intro wS hSw; (try dsimp only at hSw); go_simp); all_goals with_reducible rfl
      try go_frame
      refine tks (oi := ⟨_, _, _, _, _, _⟩) (v := ?_) 12 rfl (.inl ⟨by rfl, ?_⟩) ?_; rotate_left
      · (intro wS hSw; (try dsimp only at hSw); go_simp); all_goals with_reducible rfl
      try go_frame
      refine tks (oi := ⟨_, _, _, _, _, _⟩) (v := ?_) 13 rfl (.inl ⟨by rfl, ?_⟩) ?_; rotate_left
      · (intro wS hSw; (try dsimp only at hSw); go_simp); all_goals with_reducible rfl
      try go_frame
      refine tks (oi := ⟨_, _, _, _, _, _⟩) (v := ?_) 14 rfl (.inl ⟨by rfl, ?_⟩) ?_; rotate_left
      · (intro wS hSw; (try dsimp only at hSw); go_simp); all_goals with_reducible rfl
      try go_frame
      refine wpAnyH_done (by kernel_rfl) ?_ _
      clear hHeld
      go_wp2_with fail
      go_ret
      exact ⟨rfl, ⟨S, IA, Ic, _, Oc, HB1.out, H2.out, H3.out, H4.out, H5.out⟩, (hbW.mono hBw).drew⟩
end Go.Proofs.Ythifddkmbjnncaa

/-
  The reader of documents: the walk of add.
-/
namespace Go.Proofs.Ythifddkmbjnncaa
open Go.RowKit

/-- why an item of a kind may not be added -/
def addK (items : List ItemD) (o : List (List UInt8)) (kind : Int) : Int :=
  if o = [] ∧ (kind = 2 ∨ items ≠ []) then 40 else if 40 ≤ o.length then 42 else if 1000 ≤ items.length then 43 else 0
def itV (x : ItemD) (A : Option Addr) (c : Nat) : Value := .agg #[.int .i64 x.level, .int .i64 x.kind, .string ⟨x.name.toArray⟩, .string ⟨x.text.toArray⟩, .slice A x.attrs.length c]

def AddPost (w : World) (B b : Nat) (items : List ItemD) (o : List (List UInt8)) (x : ItemD) (E : Int) (e : Ending) (w' : World) : Prop :=
  e = .returned (.int .i64 E) ∧ PInv w' B b (if E = 0 then items ++ [{ x with level := o.length }] else items) o ∧ Below B w w' ∧ (∀ (g : Nat) (cs : Array Value) (ty : TypeId), w.heap[g]? = some (.cells cs ty (0, 0)) → ty ≠ 50 → g ≠ b → w'.heap[g]? = w.heap[g]?)

theorem appendSw {P : Program} {w : World} {o : Oper} {a : Act} {K : Act → World → Prop} {Q : Exit → Act → World → Prop} (s x : Operand) (t : TypeId)
    (ho : o.op = .call { callee := .builtin .append, args := #[s, x], argTypes := #[t, t] })
    (B : Nat) (e : TypeId) (z : Value) (size bytes : Nat) (ht : P.underlying t = some (.slice e)) (hi : (P.info? e).map (fun i => (i.zero, i.size, i.bytes)) = some (some z, size, bytes))
    (hzs : z.cells.size = size) (hsz : 0 < size)
    (v : Value) (n : Nat) (xs : List Value) (news : List Value) (hs : a.eval s = v) (hown : w.ownsRow B e size v n xs) (hB : B ≤ w.heap.size)
    (X : Nat) (hx : a.eval x = .slice (some ⟨X, 0, none⟩) 1 1) (hX : X = w.heap.size) (hnl : news.length = size) (hu : ∀ u ∈ news, u.oneCell' = true) (hn : n < 4294967296) (hby : bytes ≤ 10000)
    (h : ∀ ad c w', w'.ownsRow B e size (.slice ad (n + 1) c) (n + 1) (xs ++ news) → Below B w w' → w.heap.size < w'.heap.size → (w.alloc (.cells news.toArray e)).grownBy w' v.ownBlock → K (a.put o.dst (.slice ad (n + 1) c)) w') :
    o.wp P a (w.alloc (.cells news.toArray e)) K Q := by
  subst hX
  obtain ⟨i0, hi0, hz0, hz1, hz2⟩ := info_parts hi
  have hnews : ∀ j u, news[j]? = some u → (w.alloc (.cells news.toArray e)).cell? ((⟨w.heap.size, 0, none⟩ : Addr).add j) = some u := by
    intro j u hj
    rw [add_zero_block, World.cell?_alloc_at _ _ _ _ (by simp)]
    simpa using hj
  obtain ⟨v', w', hrun, hown', hg, _⟩ := run_append_own (P := P) (w.alloc (.cells news.toArray e)) B t o.type e i0 z size bytes ht hi0 hz0 hz1 hz2 hzs hsz v n xs (hown.alloc _) ⟨w.heap.size, 0, none⟩ 1 1 news (by rw [hnl]; omega) hnews hu (by unfold maxLen; omega) (by
    have : (n + 1) * bytes ≤ 4294967296 * 10000 := Nat.mul_le_mul (by omega) hby
    omega) (by simp; omega)
  obtain ⟨ad, c, rfl⟩ : ∃ ad c, v' = .slice ad (n + 1) c := by
    rcases hown'.2 with ⟨_, h0⟩ | ⟨g, c, cur, hv, _⟩
    · omega
    · exact ⟨_, c, hv⟩
  have hsz' := hg.size
  simp at hsz'
  have hK := h ad c w' hown' (((Below.refl B w).alloc hB _).grown hg (by simp; omega) (fun k hk => (hown.lt k hk).1)) (by omega) hg
  unfold Oper.wp
  simp [execOp, ho, resolve, invoke, builtin, hs, hx, hrun, Result.andThen]
  exact hK


set_option maxRecDepth 100000 in
set_option maxHeartbeats 1000000 in
theorem add_no (b B : Nat) (items : List ItemD) (o : List (List UInt8)) (w : World) (h : PInv w B b items o) (_hB : B ≤ b) (hBw : B ≤ w.heap.size) (ho : o.length ≤ 1000000000) (hi : items.length ≤ 1000000000) (x : ItemD) (A : Option Addr) (c : Nat) (E : Int) (hE : Hid (addK items o x.kind = E)) (hE0 : E ≠ 0) :
    Calls Try.prog 81 #[.pointer (some ⟨b, 0, none⟩), itV x A c] w (AddPost w B b items o x E) := by
  by_cases h0 : o = []
  · by_cases hk : x.kind = 2
    · have HE : Hid (E = 40) := by show _ = _; rw [← hE.out]; unfold addK; rw [if_pos ⟨h0, .inl hk⟩]
      have hk' : (x.kind == 2) = true := by simpa using hk
      have t0 : ((o.length : Int) == 0) = true := by rw [h0]; rfl
      clear hk h0 hE0
      obtain ⟨S, IA, Ic, OA, Oc, h1, h2, h3, h4, h5⟩ := h.out
      have hlen : Hid (S.length = items.length) := by show _ = _; rw [← h5, List.length_map]
      obtain ⟨W1, hW1⟩ : ∃ W1, Hid (W1 = w.alloc (.cells #[.int .i64 o.length, .int .i64 x.kind, .string ⟨x.name.toArray⟩, .string ⟨x.text.toArray⟩, .slice A x.attrs.length c] 50)) := ⟨_, rfl⟩
      have hbW : Below w.heap.size w W1 := by rw [hW1.out]; exact (Below.refl _ w).alloc (Nat.le_refl _) _
      have HB1 := Lib.hid (h1.below hbW)
      have H2 := Lib.hid (own_keep h2 hbW)
      have H3 : Hid (∀ s ∈ S, AttrsOwn W1 B s.2.1 s.2.2 s.1.attrs) := fun s hs => own_keep (h3 s hs) hbW
      have H4 := Lib.hid (h4.below hbW)
      have H5 := Lib.hid h5
      have hz1 : w.heap.size < W1.heap.size := by rw [hW1.out]; simp
      obtain ⟨z0, z1, _, _⟩ := h1.cells
      have hbl := h1.lt
      have hbne : b ≠ w.heap.size := by omega
      have hown2 : ∀ g, (Value.slice IA S.length Ic).ownBlock = some g → g = w.heap.size → False := fun g hg e => by have := (own_type h2 g hg).2.1; omega
      have hownb : (Value.slice IA S.length Ic).ownBlock ≠ some b := fun hg => by
        obtain ⟨_, _, cur, hc⟩ := own_type h2 b hg
        unfold PBlk at h1
        rw [hc] at h1
        injection h1 with h1
        injection h1 with _ h1
        exact absurd h1 (by decide)
      clear h h1 h2 h3 h4 h5
      skip
      show Calls Try.prog 81 #[.pointer (some ⟨b, 0, none⟩), .agg #[.int .i64 x.level, .int .i64 x.kind, .string ⟨x.name.toArray⟩, .string ⟨x.text.toArray⟩, .slice A x.attrs.length c]] w _
      go_enter Try.func81, Try.ntmps81
      go_wp2_with fail
      go_ret
      rw [HE.out]
      refine ⟨rfl, ?_, ?_, fun g cs ty hg _ _ => ?_⟩
      · rw [if_neg (by decide)]
        rw [← hW1.out]
        exact ⟨S, IA, Ic, OA, Oc, HB1.out, H2.out, H3.out, H4.out, H5.out⟩
      · rw [← hW1.out]; exact hbW.mono hBw
      · rw [← hW1.out]; exact hbW.block g (Array.getElem?_eq_some_iff.1 hg).1
    · by_cases hi0 : items = []
      · exfalso
        apply hE0
        rw [← hE.out]; unfold addK
        rw [if_neg (by intro hh; rcases hh.2 with h | h; exact hk h; exact h hi0), if_neg (by rw [h0]; simp), if_neg (by rw [hi0]; simp)]
      · have HE : Hid (E = 40) := by show _ = _; rw [← hE.out]; unfold addK; rw [if_pos ⟨h0, .inr hi0⟩]
        have hk' : (x.kind == 2) = false := by simpa using hk
        have t0 : ((o.length : Int) == 0) = true := by rw [h0]; rfl
        have hpos : 0 < items.length := List.length_pos_iff.2 hi0
        clear hk h0 hE0 hi0
        obtain ⟨S, IA, Ic, OA, Oc, h1, h2, h3, h4, h5⟩ := h.out
        have hlen : Hid (S.length = items.length) := by show _ = _; rw [← h5, List.length_map]
        obtain ⟨W1, hW1⟩ : ∃ W1, Hid (W1 = w.alloc (.cells #[.int .i64 o.length, .int .i64 x.kind, .string ⟨x.name.toArray⟩, .string ⟨x.text.toArray⟩, .slice A x.attrs.length c] 50)) := ⟨_, rfl⟩
        have hbW : Below w.heap.size w W1 := by rw [hW1.out]; exact (Below.refl _ w).alloc (Nat.le_refl _) _
        have HB1 := Lib.hid (h1.below hbW)
        have H2 := Lib.hid (own_keep h2 hbW)
        have H3 : Hid (∀ s ∈ S, AttrsOwn W1 B s.2.1 s.2.2 s.1.attrs) := fun s hs => own_keep (h3 s hs) hbW
        have H4 := Lib.hid (h4.below hbW)
        have H5 := Lib.hid h5
        have hz1 : w.heap.size < W1.heap.size := by rw [hW1.out]; simp
        obtain ⟨z0, z1, _, _⟩ := h1.cells
        have hbl := h1.lt
        have hbne : b ≠ w.heap.size := by omega
        have hown2 : ∀ g, (Value.slice IA S.length Ic).ownBlock = some g → g = w.heap.size → False := fun g hg e => by have := (own_type h2 g hg).2.1; omega
        have hownb : (Value.slice IA S.length Ic).ownBlock ≠ some b := fun hg => by
          obtain ⟨_, _, cur, hc⟩ := own_type h2 b hg
          unfold PBlk at h1
          rw [hc] at h1
          injection h1 with h1
          injection h1 with _ h1
          exact absurd h1 (by decide)
        clear h h1 h2 h3 h4 h5
        have hpos' : 0 < S.length := by have := hlen.out; omega
        show Calls Try.prog 81 #[.pointer (some ⟨b, 0, none⟩), .agg #[.int .i64 x.level, .int .i64 x.kind, .string ⟨x.name.toArray⟩, .string ⟨x.text.toArray⟩, .slice A x.attrs.length c]] w _
        go_enter Try.func81, Try.ntmps81
        go_wp2_with fail
        all_goals try (exfalso; omega)
        go_ret
        rw [HE.out]
        refine ⟨rfl, ?_, ?_, fun g cs ty hg _ _ => ?_⟩
        · rw [if_neg (by decide)]
          rw [← hW1.out]
          exact ⟨S, IA, Ic, OA, Oc, HB1.out, H2.out, H3.out, H4.out, H5.out⟩
        · rw [← hW1.out]; exact hbW.mono hBw
        · rw [← hW1.out]; exact hbW.block g (Array.getElem?_eq_some_iff.1 hg).1
  · have hpos : 0 < o.length := List.length_pos_iff.2 h0
    have t0 : ((o.length : Int) == 0) = false := by simp; omega
    by_cases h40 : 40 ≤ o.length
    · have HE : Hid (E = 42) := by show _ = _; rw [← hE.out]; unfold addK; rw [if_neg (fun hh => h0 hh.1), if_pos h40]
      have h40' : (40 : Int) ≤ o.length := by omega
      clear h0 hE0 h40
      obtain ⟨S, IA, Ic, OA, Oc, h1, h2, h3, h4, h5⟩ := h.out
      have hlen : Hid (S.length = items.length) := by show _ = _; rw [← h5, List.length_map]
      obtain ⟨W1, hW1⟩ : ∃ W1, Hid (W1 = w.alloc (.cells #[.int .i64 o.length, .int .i64 x.kind, .string ⟨x.name.toArray⟩, .string ⟨x.text.toArray⟩, .slice A x.attrs.length c] 50)) := ⟨_, rfl⟩
      have hbW : Below w.heap.size w W1 := by rw [hW1.out]; exact (Below.refl _ w).alloc (Nat.le_refl _) _
      have HB1 := Lib.hid (h1.below hbW)
      have H2 := Lib.hid (own_keep h2 hbW)
      have H3 : Hid (∀ s ∈ S, AttrsOwn W1 B s.2.1 s.2.2 s.1.attrs) := fun s hs => own_keep (h3 s hs) hbW
      have H4 := Lib.hid (h4.below hbW)
      have H5 := Lib.hid h5
      have hz1 : w.heap.size < W1.heap.size := by rw [hW1.out]; simp
      obtain ⟨z0, z1, _, _⟩ := h1.cells
      have hbl := h1.lt
      have hbne : b ≠ w.heap.size := by omega
      have hown2 : ∀ g, (Value.slice IA S.length Ic).ownBlock = some g → g = w.heap.size → False := fun g hg e => by have := (own_type h2 g hg).2.1; omega
      have hownb : (Value.slice IA S.length Ic).ownBlock ≠ some b := fun hg => by
        obtain ⟨_, _, cur, hc⟩ := own_type h2 b hg
        unfold PBlk at h1
        rw [hc] at h1
        injection h1 with h1
        injection h1 with _ h1
        exact absurd h1 (by decide)
      clear h h1 h2 h3 h4 h5
      skip
      show Calls Try.prog 81 #[.pointer (some ⟨b, 0, none⟩), .agg #[.int .i64 x.level, .int .i64 x.kind, .string ⟨x.name.toArray⟩, .string ⟨x.text.toArray⟩, .slice A x.attrs.length c]] w _
      go_enter Try.func81, Try.ntmps81
      go_wp2_with fail
      go_ret
      rw [HE.out]
      refine ⟨rfl, ?_, ?_, fun g cs ty hg _ _ => ?_⟩
      · rw [if_neg (by decide)]
        rw [← hW1.out]
        exact ⟨S, IA, Ic, OA, Oc, HB1.out, H2.out, H3.out, H4.out, H5.out⟩
      · rw [← hW1.out]; exact hbW.mono hBw
      · rw [← hW1.out]; exact hbW.block g (Array.getElem?_eq_some_iff.1 hg).1
    · have h1000 : 1000 ≤ items.length := by
        rcases Nat.lt_or_ge items.length 1000 with hlt | hge
        · exfalso
          apply hE0
          rw [← hE.out]; unfold addK
          rw [if_neg (fun hh => h0 hh.1), if_neg h40, if_neg (by omega)]
        · exact hge
      have HE : Hid (E = 43) := by show _ = _; rw [← hE.out]; unfold addK; rw [if_neg (fun hh => h0 hh.1), if_neg h40, if_pos h1000]
      have h40' : (o.length : Int) < 40 := by omega
      clear h0 hE0 h40
      obtain ⟨S, IA, Ic, OA, Oc, h1, h2, h3, h4, h5⟩ := h.out
      have hlen : Hid (S.length = items.length) := by show _ = _; rw [← h5, List.length_map]
      obtain ⟨W1, hW1⟩ : ∃ W1, Hid (W1 = w.alloc (.cells #[.int .i64 o.length, .int .i64 x.kind, .string ⟨x.name.toArray⟩, .string ⟨x.text.toArray⟩, .slice A x.attrs.length c] 50)) := ⟨_, rfl⟩
      have hbW : Below w.heap.size w W1 := by rw [hW1.out]; exact (Below.refl _ w).alloc (Nat.le_refl _) _
      have HB1 := Lib.hid (h1.below hbW)
      have H2 := Lib.hid (own_keep h2 hbW)
      have H3 : Hid (∀ s ∈ S, AttrsOwn W1 B s.2.1 s.2.2 s.1.attrs) := fun s hs => own_keep (h3 s hs) hbW
      have H4 := Lib.hid (h4.below hbW)
      have H5 := Lib.hid h5
      have hz1 : w.heap.size < W1.heap.size := by rw [hW1.out]; simp
      obtain ⟨z0, z1, _, _⟩ := h1.cells
      have hbl := h1.lt
      have hbne : b ≠ w.heap.size := by omega
      have hown2 : ∀ g, (Value.slice IA S.length Ic).ownBlock = some g → g = w.heap.size → False := fun g hg e => by have := (own_type h2 g hg).2.1; omega
      have hownb : (Value.slice IA S.length Ic).ownBlock ≠ some b := fun hg => by
        obtain ⟨_, _, cur, hc⟩ := own_type h2 b hg
        unfold PBlk at h1
        rw [hc] at h1
        injection h1 with h1
        injection h1 with _ h1
        exact absurd h1 (by decide)
      clear h h1 h2 h3 h4 h5
      have hS : (1000 : Int) ≤ S.length := by have := hlen.out; omega
      show Calls Try.prog 81 #[.pointer (some ⟨b, 0, none⟩), .agg #[.int .i64 x.level, .int .i64 x.kind, .string ⟨x.name.toArray⟩, .string ⟨x.text.toArray⟩, .slice A x.attrs.length c]] w _
      go_enter Try.func81, Try.ntmps81
      go_wp2_with fail
      go_ret
      rw [HE.out]
      refine ⟨rfl, ?_, ?_, fun g cs ty hg _ _ => ?_⟩
      · rw [if_neg (by decide)]
        rw [← hW1.out]
        exact ⟨S, IA, Ic, OA, Oc, HB1.out, H2.out, H3.out, H4.out, H5.out⟩
      · rw [← hW1.out]; exact hbW.mono hBw
      · rw [← hW1.out]; exact hbW.block g (Array.getElem?_eq_some_iff.1 hg).1

theorem cellsI_cell (s : Slot) : ∀ u ∈ cellsI s, u.oneCell' = true := by
  intro u hu
  simp [cellsI, strV] at hu
  rcases hu with rfl | rfl | rfl | rfl | rfl <;> rfl
/-- an item in a block of its own -/
def BoxI (w : World) (g : Nat) (lv : Int) (x : ItemD) (A : Option Addr) (c : Nat) : Prop := w.cell? ⟨g, 0, none⟩ = some (.int .i64 lv) ∧ w.cell? ⟨g, 1, none⟩ = some (.int .i64 x.kind) ∧ w.cell? ⟨g, 2, none⟩ = some (.string ⟨x.name.toArray⟩) ∧ w.cell? ⟨g, 3, none⟩ = some (.string ⟨x.text.toArray⟩) ∧ w.cell? ⟨g, 4, none⟩ = some (.slice A x.attrs.length c)
theorem BoxI.keep {w w' : World} {g : Nat} {lv : Int} {x : ItemD} {A : Option Addr} {c : Nat} (h : BoxI w g lv x A c) (hk : ∀ j, w'.cell? ⟨g, j, none⟩ = w.cell? ⟨g, j, none⟩) : BoxI w' g lv x A c := by
  obtain ⟨h0, h1, h2, h3, h4⟩ := h
  exact ⟨(hk 0).trans h0, (hk 1).trans h1, (hk 2).trans h2, (hk 3).trans h3, (hk 4).trans h4⟩



set_option maxRecDepth 100000 in
set_option maxHeartbeats 1000000 in
theorem add_yes (b B : Nat) (items : List ItemD) (o : List (List UInt8)) (w : World) (h : PInv w B b items o) (hB : B ≤ b) (hBw : B ≤ w.heap.size) (x : ItemD) (A : Option Addr) (c : Nat) (hA : AttrsOwn w B A c x.attrs) (hE : addK items o x.kind = 0) :
    Calls Try.prog 81 #[.pointer (some ⟨b, 0, none⟩), itV x A c] w (AddPost w B b items o x 0) := by
  have hE1 : ¬ (o = [] ∧ (x.kind = 2 ∨ items ≠ [])) := fun hh => by unfold addK at hE; rw [if_pos hh] at hE; exact absurd hE (by decide)
  have hE2 : o.length < 40 := by
    rcases Nat.lt_or_ge o.length 40 with hlt | hge
    · exact hlt
    · exfalso; unfold addK at hE; rw [if_neg hE1, if_pos hge] at hE; exact absurd hE (by decide)
  have hE3 : items.length < 1000 := by
    rcases Nat.lt_or_ge items.length 1000 with hlt | hge
    · exact hlt
    · exfalso; unfold addK at hE; rw [if_neg hE1, if_neg (by omega), if_pos hge] at hE; exact absurd hE (by decide)
  have h40' : (o.length : Int) < 40 := by omega
  have HA : Hid (AttrsOwn (w.alloc (.cells #[.int .i64 o.length, .int .i64 x.kind, .string ⟨x.name.toArray⟩, .string ⟨x.text.toArray⟩, .slice A x.attrs.length c] 50)) B A c x.attrs) := World.ownsRow.alloc hA _
  clear hA hE
  by_cases h0 : o = []
  · have hk' : (x.kind == 2) = false := by
      by_cases hk : x.kind = 2
      · exact absurd ⟨h0, .inl hk⟩ hE1
      · simpa using hk
    have hi0 : items = [] := by
      by_cases hi : items = []
      · exact hi
      · exact absurd ⟨h0, .inr hi⟩ hE1
    have t0 : ((o.length : Int) == 0) = true := by rw [h0]; rfl
    have hil : items.length = 0 := by rw [hi0]; rfl
    have hE1' := Lib.hid hE1
    clear hE1 h0 hi0
    obtain ⟨S, IA, Ic, OA, Oc, h1, h2, h3, h4, h5⟩ := h.out
    have hlen : Hid (S.length = items.length) := by show _ = _; rw [← h5, List.length_map]
    obtain ⟨W1, hW1⟩ : ∃ W1, Hid (W1 = w.alloc (.cells #[.int .i64 o.length, .int .i64 x.kind, .string ⟨x.name.toArray⟩, .string ⟨x.text.toArray⟩, .slice A x.attrs.length c] 50)) := ⟨_, rfl⟩
    have hbW : Below w.heap.size w W1 := by rw [hW1.out]; exact (Below.refl _ w).alloc (Nat.le_refl _) _
    have HB1 := Lib.hid (h1.below hbW)
    have H2 := Lib.hid (own_keep h2 hbW)
    have H3 : Hid (∀ s ∈ S, AttrsOwn W1 B s.2.1 s.2.2 s.1.attrs) := fun s hs => own_keep (h3 s hs) hbW
    have H4 := Lib.hid (h4.below hbW)
    have H5 := Lib.hid h5
    have hz1 : w.heap.size < W1.heap.size := by rw [hW1.out]; simp
    obtain ⟨z0, z1, _, _⟩ := h1.cells
    have hbl := h1.lt
    have hbne : b ≠ w.heap.size := by omega
    have hown2 : ∀ g, (Value.slice IA S.length Ic).ownBlock = some g → g = w.heap.size → False := fun g hg e => by have := (own_type h2 g hg).2.1; omega
    have hownb : (Value.slice IA S.length Ic).ownBlock ≠ some b := fun hg => by
      obtain ⟨_, _, cur, hc⟩ := own_type h2 b hg
      unfold PBlk at h1
      rw [hc] at h1
      injection h1 with h1
      injection h1 with _ h1
      exact absurd h1 (by decide)
    clear h h1 h2 h3 h4 h5
    have hS : S.length ≤ 0 := by have := hlen.out; omega
    show Calls Try.prog 81 #[.pointer (some ⟨b, 0, none⟩), .agg #[.int .i64 x.level, .int .i64 x.kind, .string ⟨x.name.toArray⟩, .string ⟨x.text.toArray⟩, .slice A x.attrs.length c]] w _
    go_enter Try.func81, Try.ntmps81
    go_wp2_with fail
    all_goals try (exfalso; omega)
    have y : ∀ (j : Nat) (u : Value), (#[.int .i64 o.length, .int .i64 x.kind, .string ⟨x.name.toArray⟩, .string ⟨x.text.toArray⟩, .slice A x.attrs.length c] : Array Value)[j]? = some u → W1.cell? ⟨w.heap.size, j, none⟩ = some u := fun j u hu => by rw [hW1.out, World.cell?_alloc_at _ _ _ _ rfl]; exact hu
    have HS : Hid (BoxI W1.drew w.heap.size o.length x A c) := ⟨y 0 _ rfl, y 1 _ rfl, y 2 _ rfl, y 3 _ rfl, y 4 _ rfl⟩
    have hzB : B ≤ W1.drew.heap.size := Nat.le_trans hBw hbW.size
    clear y
    rw [← hW1.out]
    refine wp_region_held_drew (S := fun w' => w'.cell? ⟨w.heap.size, 0, none⟩ = some (.int .i64 o.length) ∧ w'.cell? ⟨w.heap.size, 1, none⟩ = some (.int .i64 x.kind) ∧ w'.cell? ⟨w.heap.size, 2, none⟩ = some (.string ⟨x.name.toArray⟩) ∧ w'.cell? ⟨w.heap.size, 3, none⟩ = some (.string ⟨x.text.toArray⟩) ∧ w'.cell? ⟨w.heap.size, 4, none⟩ = some (.slice A x.attrs.length c)) (by kernel_rfl) HS.out (fun hHeld => ?_)
    refine tks (oi := ⟨_, _, _, _, _, _⟩) (v := ?_) 0 rfl (.inl ⟨by rfl, ?_⟩) ?_; rotate_left
    · (intro wS hSw; (try dsimp only at hSw); go_simp); all_goals with_reducible rfl
    try go_frame
    refine tks (oi := ⟨_, _, _, _, _, _⟩) (v := ?_) 1 rfl (.inl ⟨by rfl, ?_⟩) ?_; rotate_left
    · (intro wS hSw; (try dsimp only at hSw); go_simp); all_goals with_reducible rfl
    try go_frame
    refine tks (oi := ⟨_, _, _, _, _, _⟩) (v := ?_) 2 rfl (.inl ⟨by rfl, ?_⟩) ?_; rotate_left
    · (intro wS hSw; (try dsimp only at hSw); go_simp); all_goals with_reducible rfl
    try go_frame
    refine tks (oi := ⟨_, _, _, _, _, _⟩) (v := ?_) 3 rfl (.inl ⟨by rfl, ?_⟩) ?_; rotate_left
    · (intro wS hSw; (try dsimp only at hSw); go_simp); all_goals with_reducible rfl
    try go_frame
    refine tks (oi := ⟨_, _, _, _, _, _⟩) (v := ?_) 5 rfl (.inl ⟨by rfl, ?_⟩) ?_; rotate_left
    · (intro wS hSw; (try dsimp only at hSw); go_simp); all_goals with_reducible rfl
    try go_frame
    have z0d : W1.cell? ⟨b, 0, none⟩ = some (.slice IA S.length Ic) := HB1.out.cells.1
    have z0e : W1.drew.cell? ⟨b, 0, none⟩ = some (.slice IA S.length Ic) := HB1.out.cells.1
    have HS2 : Hid (BoxI (W1.drew.alloc (.cells #[.int .i64 o.length, .int .i64 x.kind, .string ⟨x.name.toArray⟩, .string ⟨x.text.toArray⟩, .slice A x.attrs.length c] 50)) w.heap.size o.length x A c) := BoxI.keep HS.out (fun j => World.cell?_alloc_lt _ _ _ hz1)
    have hbd : b < W1.heap.size := Nat.lt_of_lt_of_le hbl hbW.size
    have z0f : (W1.drew.alloc (.cells #[.int .i64 o.length, .int .i64 x.kind, .string ⟨x.name.toArray⟩, .string ⟨x.text.toArray⟩, .slice A x.attrs.length c] 50)).cell? ⟨b, 0, none⟩ = some (.slice IA S.length Ic) := (World.cell?_alloc_lt _ _ _ hbd).trans z0e
    refine wpAnyH_ready (rs := [4, 6]) (by kernel_rfl) (by simp) ?_
    refine AllReadyH.cons (o := ⟨_, _, _, _, _, _⟩) rfl (fun K hK => ?_) (AllReadyH.cons (o := ⟨_, _, _, _, _, _⟩) rfl (fun K hK => ?_) AllReadyH.nil)
    · go_simp
      refine hK.out _ _ (HS.out) (fun hHeld => ?_)
      clear hK K
      try go_frame
      refine wpAnyH_ready (rs := [6]) (by kernel_rfl) (by simp) ?_
      refine AllReadyH.cons (o := ⟨_, _, _, _, _, _⟩) rfl (fun K hK => ?_) AllReadyH.nil
      go_simp
      refine hK.out _ _ (HS2.out) (fun hHeld => ?_)
      clear hK K
      try go_frame
      refine wpAnyH_ready (rs := [7]) (by kernel_rfl) (by simp) ?_
      refine AllReadyH.cons (o := ⟨_, _, _, _, _, _⟩) rfl (fun K hK => ?_) AllReadyH.nil
      refine appendSw (.tmp 43) (.tmp 45) 45 rfl B 50 (.agg #[.int .i64 0, .int .i64 0, .string ByteArray.empty, .string ByteArray.empty, .slice none 0 0]) 5 72 Try.underlying45 infoItem rfl (by decide) _ S.length _ (cellsI ({ x with level := o.length }, A, c)) rfl H2.out hzB _ rfl rfl (cellsI_length _) (cellsI_cell _) (by omega) (by decide) ?_
      intro a4 c4 w4 hown4 hb4 hz4 hg4
      have hz4' : W1.heap.size < w4.heap.size := hz4
      have HS4 : Hid (BoxI w4 w.heap.size o.length x A c) := BoxI.keep HS2.out (fun j => World.grownBy.cell_far hg4 ⟨w.heap.size, j, none⟩ (by show w.heap.size < _; simp; omega) (fun e => hown2 _ e.symm rfl))
      have HB4 : Hid (PBlk w4 b IA S.length Ic OA o.length Oc) := by
        have h0 : PBlk (W1.drew.alloc (.cells #[.int .i64 o.length, .int .i64 x.kind, .string ⟨x.name.toArray⟩, .string ⟨x.text.toArray⟩, .slice A x.attrs.length c] 50)) b IA S.length Ic OA o.length Oc := PBlk.below (w := W1.drew) HB1.out ((Below.refl _ _).alloc (Nat.le_refl _) _)
        exact (hg4.block b h0.lt (fun e => hownb e.symm)).trans h0
      obtain ⟨k0, _, kf0, _⟩ := HB4.out.cells
      refine hK.out _ _ (HS4.out) (fun hHeld => ?_)
      clear hK K
      try go_frame
      refine tks (oi := ⟨_, _, _, _, _, _⟩) (v := ?_) 8 rfl (.inl ⟨by rfl, ?_⟩) ?_; rotate_left
      · (intro wS hSw; (try dsimp only at hSw); go_simp); all_goals with_reducible rfl
      try go_frame
      refine tks (oi := ⟨_, _, _, _, _, _⟩) (v := ?_) 9 rfl (.inl ⟨by rfl, ?_⟩) ?_; rotate_left
      · (intro wS hSw; (try dsimp only at hSw); go_simp); all_goals with_reducible rfl
      try go_frame
      refine wpAnyH_ready (rs := [10]) (by kernel_rfl) (by simp) ?_
      refine AllReadyH.cons (o := ⟨_, _, _, _, _, _⟩) rfl (fun K hK => ?_) AllReadyH.nil
      go_simp
      have HS5 : Hid (BoxI (w4.setCell ⟨b, 0, none⟩ (.slice a4 (S.length + 1) c4)) w.heap.size o.length x A c) := BoxI.keep HS4.out (fun j => World.grownBy.cell_far (Lib.grownBy_setCell w4 b 0 _) ⟨w.heap.size, j, none⟩ (by show w.heap.size < _; omega) (fun e => by injection e with e; have e' : w.heap.size = b := e; omega))
      refine hK.out _ _ (HS5.out) (fun hHeld => ?_)
      clear hK K
      try go_frame
      refine wpAnyH_done (by kernel_rfl) ?_ _
      clear hHeld
      go_wp2_with fail
      go_ret
      have hfin : ItemsOwn w4 B a4 c4 (S ++ [(({ x with level := (o.length : Int) } : ItemD), A, c)]) := by
        unfold ItemsOwn
        rw [List.length_append, List.flatMap_append]
        simpa using hown4
      have halloc : ∀ {e : TypeId} {size : Nat} {v : Value} {n : Nat} {xs : List Value}, W1.ownsRow B e size v n xs → e ≠ 50 → w4.ownsRow B e size v n xs := fun hr he =>
        own_grown (World.ownsRow.alloc (w := W1.drew) hr _) (World.ownsRow.alloc (w := W1.drew) H2.out _) he hg4
      refine ⟨rfl, ?_, (((hbW.mono hBw).drew).trans hb4).setCell hB _, fun g cs ty hg hty hgb => ?_⟩
      rotate_left
      · have hlt : g < w.heap.size := (Array.getElem?_eq_some_iff.1 hg).1
        have hg1 : W1.heap[g]? = w.heap[g]? := hbW.block g hlt
        have hlt1 : g < W1.heap.size := Nat.lt_trans hlt hz1
        have e1 : (w4.setCell ⟨b, 0, none⟩ (.slice a4 (S.length + 1) c4)).heap[g]? = w4.heap[g]? := (Lib.grownBy_setCell w4 b 0 _).block g (by omega) (fun e => by injection e with e; exact hgb e)
        have e2 : w4.heap[g]? = (W1.drew.alloc (.cells #[.int .i64 o.length, .int .i64 x.kind, .string ⟨x.name.toArray⟩, .string ⟨x.text.toArray⟩, .slice A x.attrs.length c] 50)).heap[g]? := hg4.block g (by show g < _; simp; omega) (fun e => by
          obtain ⟨_, _, cur, hc⟩ := own_type (World.ownsRow.alloc (w := W1.drew) H2.out _) g e.symm
          have e3 : (W1.drew.alloc (.cells #[.int .i64 o.length, .int .i64 x.kind, .string ⟨x.name.toArray⟩, .string ⟨x.text.toArray⟩, .slice A x.attrs.length c] 50)).heap[g]? = W1.heap[g]? := heap_alloc_old W1.drew _ hlt1
          rw [e3, hg1, hg] at hc
          injection hc with hc
          injection hc with _ hc
          exact hty hc)
        exact e1.trans (e2.trans ((heap_alloc_old W1.drew _ hlt1).trans hg1))
      rw [if_pos rfl]
      refine ⟨S ++ [(({ x with level := (o.length : Int) } : ItemD), A, c)], a4, c4, OA, Oc, ?_, own_set HB4.out _ hfin (by decide), fun s hs => ?_, ?_, ?_⟩
      · have := HB4.out.setItems a4 (S.length + 1) c4
        rw [List.length_append]
        exact this
      · refine own_set HB4.out _ (halloc (e := 44) ?_ (by decide)) (by decide)
        rcases List.mem_append.1 hs with hm | hm
        · exact H3.out s hm
        · simp at hm; subst hm
          have := HA.out
          rw [← hW1.out] at this
          exact this
      · refine open_set HB4.out _ ?_
        have h0 : OpenOwn (W1.drew.alloc (.cells #[.int .i64 o.length, .int .i64 x.kind, .string ⟨x.name.toArray⟩, .string ⟨x.text.toArray⟩, .slice A x.attrs.length c] 50)) B OA Oc o := OpenOwn.below (w := W1.drew) H4.out ((Below.refl _ _).alloc (Nat.le_refl _) _)
        exact h0.grown hg4 (fun g hg _ => by
          obtain ⟨_, _, cur, hc⟩ := own_type (World.ownsRow.alloc (w := W1.drew) H2.out _) g hg
          exact ⟨cur, _, hc, by decide⟩)
      · rw [List.map_append, H5.out]; rfl
    · go_simp
      refine hK.out _ _ (HS2.out) (fun hHeld => ?_)
      clear hK K
      try go_frame
      refine wpAnyH_ready (rs := [4]) (by kernel_rfl) (by simp) ?_
      refine AllReadyH.cons (o := ⟨_, _, _, _, _, _⟩) rfl (fun K hK => ?_) AllReadyH.nil
      go_simp
      refine hK.out _ _ (HS2.out) (fun hHeld => ?_)
      clear hK K
      try go_frame
      refine wpAnyH_ready (rs := [7]) (by kernel_rfl) (by simp) ?_
      refine AllReadyH.cons (o := ⟨_, _, _, _, _, _⟩) rfl (fun K hK => ?_) AllReadyH.nil
      refine appendSw (.tmp 43) (.tmp 45) 45 rfl B 50 (.agg #[.int .i64 0, .int .i64 0, .string ByteArray.empty, .string ByteArray.empty, .slice none 0 0]) 5 72 Try.underlying45 infoItem rfl (by decide) _ S.length _ (cellsI ({ x with level := o.length }, A, c)) rfl H2.out hzB _ rfl rfl (cellsI_length _) (cellsI_cell _) (by omega) (by decide) ?_
      intro a4 c4 w4 hown4 hb4 hz4 hg4
      have hz4' : W1.heap.size < w4.heap.size := hz4
      have HS4 : Hid (BoxI w4 w.heap.size o.length x A c) := BoxI.keep HS2.out (fun j => World.grownBy.cell_far hg4 ⟨w.heap.size, j, none⟩ (by show w.heap.size < _; simp; omega) (fun e => hown2 _ e.symm rfl))
      have HB4 : Hid (PBlk w4 b IA S.length Ic OA o.length Oc) := by
        have h0 : PBlk (W1.drew.alloc (.cells #[.int .i64 o.length, .int .i64 x.kind, .string ⟨x.name.toArray⟩, .string ⟨x.text.toArray⟩, .slice A x.attrs.length c] 50)) b IA S.length Ic OA o.length Oc := PBlk.below (w := W1.drew) HB1.out ((Below.refl _ _).alloc (Nat.le_refl _) _)
        exact (hg4.block b h0.lt (fun e => hownb e.symm)).trans h0
      obtain ⟨k0, _, kf0, _⟩ := HB4.out.cells
      refine hK.out _ _ (HS4.out) (fun hHeld => ?_)
      clear hK K
      try go_frame
      refine tks (oi := ⟨_, _, _, _, _, _⟩) (v := ?_) 8 rfl (.inl ⟨by rfl, ?_⟩) ?_; rotate_left
      · (intro wS hSw; (try dsimp only at hSw); go_simp); all_goals with_reducible rfl
      try go_frame
      refine tks (oi := ⟨_, _, _, _, _, _⟩) (v := ?_) 9 rfl (.inl ⟨by rfl, ?_⟩) ?_; rotate_left
      · (intro wS hSw; (try dsimp only at hSw); go_simp); all_goals with_reducible rfl
      try go_frame
      refine wpAnyH_ready (rs := [10]) (by kernel_rfl) (by simp) ?_
      refine AllReadyH.cons (o := ⟨_, _, _, _, _, _⟩) rfl (fun K hK => ?_) AllReadyH.nil
      go_simp
      have HS5 : Hid (BoxI (w4.setCell ⟨b, 0, none⟩ (.slice a4 (S.length + 1) c4)) w.heap.size o.length x A c) := BoxI.keep HS4.out (fun j => World.grownBy.cell_far (Lib.grownBy_setCell w4 b 0 _) ⟨w.heap.size, j, none⟩ (by show w.heap.size < _; omega) (fun e => by injection e with e; have e' : w.heap.size = b := e; omega))
      refine hK.out _ _ (HS5.out) (fun hHeld => ?_)
      clear hK K
      try go_frame
      refine wpAnyH_done (by kernel_rfl) ?_ _
      clear hHeld
      go_wp2_with fail
      go_ret
      have hfin : ItemsOwn w4 B a4 c4 (S ++ [(({ x with level := (o.length : Int) } : ItemD), A, c)]) := by
        unfold ItemsOwn
        rw [List.length_append, List.flatMap_append]
        simpa using hown4
      have halloc : ∀ {e : TypeId} {size : Nat} {v : Value} {n : Nat} {xs : List Value}, W1.ownsRow B e size v n xs → e ≠ 50 → w4.ownsRow B e size v n xs := fun hr he =>
        own_grown (World.ownsRow.alloc (w := W1.drew) hr _) (World.ownsRow.alloc (w := W1.drew) H2.out _) he hg4
      refine ⟨rfl, ?_, (((hbW.mono hBw).drew).trans hb4).setCell hB _, fun g cs ty hg hty hgb => ?_⟩
      rotate_left
      · have hlt : g < w.heap.size := (Array.getElem?_eq_some_iff.1 hg).1
        have hg1 : W1.heap[g]? = w.heap[g]? := hbW.block g hlt
        have hlt1 : g < W1.heap.size := Nat.lt_trans hlt hz1
        have e1 : (w4.setCell ⟨b, 0, none⟩ (.slice a4 (S.length + 1) c4)).heap[g]? = w4.heap[g]? := (Lib.grownBy_setCell w4 b 0 _).block g (by omega) (fun e => by injection e with e; exact hgb e)
        have e2 : w4.heap[g]? = (W1.drew.alloc (.cells #[.int .i64 o.length, .int .i64 x.kind, .string ⟨x.name.toArray⟩, .string ⟨x.text.toArray⟩, .slice A x.attrs.length c] 50)).heap[g]? := hg4.block g (by show g < _; simp; omega) (fun e => by
          obtain ⟨_, _, cur, hc⟩ := own_type (World.ownsRow.alloc (w := W1.drew) H2.out _) g e.symm
          have e3 : (W1.drew.alloc (.cells #[.int .i64 o.length, .int .i64 x.kind, .string ⟨x.name.toArray⟩, .string ⟨x.text.toArray⟩, .slice A x.attrs.length c] 50)).heap[g]? = W1.heap[g]? := heap_alloc_old W1.drew _ hlt1
          rw [e3, hg1, hg] at hc
          injection hc with hc
          injection hc with _ hc
          exact hty hc)
        exact e1.trans (e2.trans ((heap_alloc_old W1.drew _ hlt1).trans hg1))
      rw [if_pos rfl]
      refine ⟨S ++ [(({ x with level := (o.length : Int) } : ItemD), A, c)], a4, c4, OA, Oc, ?_, own_set HB4.out _ hfin (by decide), fun s hs => ?_, ?_, ?_⟩
      · have := HB4.out.setItems a4 (S.length + 1) c4
        rw [List.length_append]
        exact this
      · refine own_set HB4.out _ (halloc (e := 44) ?_ (by decide)) (by decide)
        rcases List.mem_append.1 hs with hm | hm
        · exact H3.out s hm
        · simp at hm; subst hm
          have := HA.out
          rw [← hW1.out] at this
          exact this
      · refine open_set HB4.out _ ?_
        have h0 : OpenOwn (W1.drew.alloc (.cells #[.int .i64 o.length, .int .i64 x.kind, .string ⟨x.name.toArray⟩, .string ⟨x.text.toArray⟩, .slice A x.attrs.length c] 50)) B OA Oc o := OpenOwn.below (w := W1.drew) H4.out ((Below.refl _ _).alloc (Nat.le_refl _) _)
        exact h0.grown hg4 (fun g hg _ => by
          obtain ⟨_, _, cur, hc⟩ := own_type (World.ownsRow.alloc (w := W1.drew) H2.out _) g hg
          exact ⟨cur, _, hc, by decide⟩)
      · rw [List.map_append, H5.out]; rfl
  · have hpos : 0 < o.length := List.length_pos_iff.2 h0
    have t0 : ((o.length : Int) == 0) = false := by simp; omega
    have hE1' := Lib.hid hE1
    clear hE1 h0
    obtain ⟨S, IA, Ic, OA, Oc, h1, h2, h3, h4, h5⟩ := h.out
    have hlen : Hid (S.length = items.length) := by show _ = _; rw [← h5, List.length_map]
    obtain ⟨W1, hW1⟩ : ∃ W1, Hid (W1 = w.alloc (.cells #[.int .i64 o.length, .int .i64 x.kind, .string ⟨x.name.toArray⟩, .string ⟨x.text.toArray⟩, .slice A x.attrs.length c] 50)) := ⟨_, rfl⟩
    have hbW : Below w.heap.size w W1 := by rw [hW1.out]; exact (Below.refl _ w).alloc (Nat.le_refl _) _
    have HB1 := Lib.hid (h1.below hbW)
    have H2 := Lib.hid (own_keep h2 hbW)
    have H3 : Hid (∀ s ∈ S, AttrsOwn W1 B s.2.1 s.2.2 s.1.attrs) := fun s hs => own_keep (h3 s hs) hbW
    have H4 := Lib.hid (h4.below hbW)
    have H5 := Lib.hid h5
    have hz1 : w.heap.size < W1.heap.size := by rw [hW1.out]; simp
    obtain ⟨z0, z1, _, _⟩ := h1.cells
    have hbl := h1.lt
    have hbne : b ≠ w.heap.size := by omega
    have hown2 : ∀ g, (Value.slice IA S.length Ic).ownBlock = some g → g = w.heap.size → False := fun g hg e => by have := (own_type h2 g hg).2.1; omega
    have hownb : (Value.slice IA S.length Ic).ownBlock ≠ some b := fun hg => by
      obtain ⟨_, _, cur, hc⟩ := own_type h2 b hg
      unfold PBlk at h1
      rw [hc] at h1
      injection h1 with h1
      injection h1 with _ h1
      exact absurd h1 (by decide)
    clear h h1 h2 h3 h4 h5
    have hS : (S.length : Int) < 1000 := by have := hlen.out; omega
    show Calls Try.prog 81 #[.pointer (some ⟨b, 0, none⟩), .agg #[.int .i64 x.level, .int .i64 x.kind, .string ⟨x.name.toArray⟩, .string ⟨x.text.toArray⟩, .slice A x.attrs.length c]] w _
    go_enter Try.func81, Try.ntmps81
    go_wp2_with fail
    have y : ∀ (j : Nat) (u : Value), (#[.int .i64 o.length, .int .i64 x.kind, .string ⟨x.name.toArray⟩, .string ⟨x.text.toArray⟩, .slice A x.attrs.length c] : Array Value)[j]? = some u → W1.cell? ⟨w.heap.size, j, none⟩ = some u := fun j u hu => by rw [hW1.out, World.cell?_alloc_at _ _ _ _ rfl]; exact hu
    have HS : Hid (BoxI W1.drew w.heap.size o.length x A c) := ⟨y 0 _ rfl, y 1 _ rfl, y 2 _ rfl, y 3 _ rfl, y 4 _ rfl⟩
    have hzB : B ≤ W1.drew.heap.size := Nat.le_trans hBw hbW.size
    clear y
    rw [← hW1.out]
    refine wp_region_held_drew (S := fun w' => w'.cell? ⟨w.heap.size, 0, none⟩ = some (.int .i64 o.length) ∧ w'.cell? ⟨w.heap.size, 1, none⟩ = some (.int .i64 x.kind) ∧ w'.cell? ⟨w.heap.size, 2, none⟩ = some (.string ⟨x.name.toArray⟩) ∧ w'.cell? ⟨w.heap.size, 3, none⟩ = some (.string ⟨x.text.toArray⟩) ∧ w'.cell? ⟨w.heap.size, 4, none⟩ = some (.slice A x.attrs.length c)) (by kernel_rfl) HS.out (fun hHeld => ?_)
    refine tks (oi := ⟨_, _, _, _, _, _⟩) (v := ?_) 0 rfl (.inl ⟨by rfl, ?_⟩) ?_; rotate_left
    · (intro wS hSw; (try dsimp only at hSw); go_simp); all_goals with_reducible rfl
    try go_frame
    refine tks (oi := ⟨_, _, _, _, _, _⟩) (v := ?_) 1 rfl (.inl ⟨by rfl, ?_⟩) ?_; rotate_left
    · (intro wS hSw; (try dsimp only at hSw); go_simp); all_goals with_reducible rfl
    try go_frame
    refine tks (oi := ⟨_, _, _, _, _, _⟩) (v := ?_) 2 rfl (.inl ⟨by rfl, ?_⟩) ?_; rotate_left
    · (intro wS hSw; (try dsimp only at hSw); go_simp); all_goals with_reducible rfl
    try go_frame
    refine tks (oi := ⟨_, _, _, _, _, _⟩) (v := ?_) 3 rfl (.inl ⟨by rfl, ?_⟩) ?_; rotate_left
    · (intro wS hSw; (try dsimp only at hSw); go_simp); all_goals with_reducible rfl
    try go_frame
    refine tks (oi := ⟨_, _, _, _, _, _⟩) (v := ?_) 5 rfl (.inl ⟨by rfl, ?_⟩) ?_; rotate_left
    · (intro wS hSw; (try dsimp only at hSw); go_simp); all_goals with_reducible rfl
    try go_frame
    have z0d : W1.cell? ⟨b, 0, none⟩ = some (.slice IA S.length Ic) := HB1.out.cells.1
    have z0e : W1.drew.cell? ⟨b, 0, none⟩ = some (.slice IA S.length Ic) := HB1.out.cells.1
    have HS2 : Hid (BoxI (W1.drew.alloc (.cells #[.int .i64 o.length, .int .i64 x.kind, .string ⟨x.name.toArray⟩, .string ⟨x.text.toArray⟩, .slice A x.attrs.length c] 50)) w.heap.size o.length x A c) := BoxI.keep HS.out (fun j => World.cell?_alloc_lt _ _ _ hz1)
    have hbd : b < W1.heap.size := Nat.lt_of_lt_of_le hbl hbW.size
    have z0f : (W1.drew.alloc (.cells #[.int .i64 o.length, .int .i64 x.kind, .string ⟨x.name.toArray⟩, .string ⟨x.text.toArray⟩, .slice A x.attrs.length c] 50)).cell? ⟨b, 0, none⟩ = some (.slice IA S.length Ic) := (World.cell?_alloc_lt _ _ _ hbd).trans z0e
    refine wpAnyH_ready (rs := [4, 6]) (by kernel_rfl) (by simp) ?_
    refine AllReadyH.cons (o := ⟨_, _, _, _, _, _⟩) rfl (fun K hK => ?_) (AllReadyH.cons (o := ⟨_, _, _, _, _, _⟩) rfl (fun K hK => ?_) AllReadyH.nil)
    · go_simp
      refine hK.out _ _ (HS.out) (fun hHeld => ?_)
      clear hK K
      try go_frame
      refine wpAnyH_ready (rs := [6]) (by kernel_rfl) (by simp) ?_
      refine AllReadyH.cons (o := ⟨_, _, _, _, _, _⟩) rfl (fun K hK => ?_) AllReadyH.nil
      go_simp
      refine hK.out _ _ (HS2.out) (fun hHeld => ?_)
      clear hK K
      try go_frame
      refine wpAnyH_ready (rs := [7]) (by kernel_rfl) (by simp) ?_
      refine AllReadyH.cons (o := ⟨_, _, _, _, _, _⟩) rfl (fun K hK => ?_) AllReadyH.nil
      refine appendSw (.tmp 43) (.tmp 45) 45 rfl B 50 (.agg #[.int .i64 0, .int .i64 0, .string ByteArray.empty, .string ByteArray.empty, .slice none 0 0]) 5 72 Try.underlying45 infoItem rfl (by decide) _ S.length _ (cellsI ({ x with level := o.length }, A, c)) rfl H2.out hzB _ rfl rfl (cellsI_length _) (cellsI_cell _) (by omega) (by decide) ?_
      intro a4 c4 w4 hown4 hb4 hz4 hg4
      have hz4' : W1.heap.size < w4.heap.size := hz4
      have HS4 : Hid (BoxI w4 w.heap.size o.length x A c) := BoxI.keep HS2.out (fun j => World.grownBy.cell_far hg4 ⟨w.heap.size, j, none⟩ (by show w.heap.size < _; simp; omega) (fun e => hown2 _ e.symm rfl))
      have HB4 : Hid (PBlk w4 b IA S.length Ic OA o.length Oc) := by
        have h0 : PBlk (W1.drew.alloc (.cells #[.int .i64 o.length, .int .i64 x.kind, .string ⟨x.name.toArray⟩, .string ⟨x.text.toArray⟩, .slice A x.attrs.length c] 50)) b IA S.length Ic OA o.length Oc := PBlk.below (w := W1.drew) HB1.out ((Below.refl _ _).alloc (Nat.le_refl _) _)
        exact (hg4.block b h0.lt (fun e => hownb e.symm)).trans h0
      obtain ⟨k0, _, kf0, _⟩ := HB4.out.cells
      refine hK.out _ _ (HS4.out) (fun hHeld => ?_)
      clear hK K
      try go_frame
      refine tks (oi := ⟨_, _, _, _, _, _⟩) (v := ?_) 8 rfl (.inl ⟨by rfl, ?_⟩) ?_; rotate_left
      · (intro wS hSw; (try dsimp only at hSw); go_simp); all_goals with_reducible rfl
      try go_frame
      refine tks (oi := ⟨_, _, _, _, _, _⟩) (v := ?_) 9 rfl (.inl ⟨by rfl, ?_⟩) ?_; rotate_left
      · (intro wS hSw; (try dsimp only at hSw); go_simp); all_goals with_reducible rfl
      try go_frame
      refine wpAnyH_ready (rs := [10]) (by kernel_rfl) (by simp) ?_
      refine AllReadyH.cons (o := ⟨_, _, _, _, _, _⟩) rfl (fun K hK => ?_) AllReadyH.nil
      go_simp
      have HS5 : Hid (BoxI (w4.setCell ⟨b, 0, none⟩ (.slice a4 (S.length + 1) c4)) w.heap.size o.length x A c) := BoxI.keep HS4.out (fun j => World.grownBy.cell_far (Lib.grownBy_setCell w4 b 0 _) ⟨w.heap.size, j, none⟩ (by show w.heap.size < _; omega) (fun e => by injection e with e; have e' : w.heap.size = b := e; omega))
      refine hK.out _ _ (HS5.out) (fun hHeld => ?_)
      clear hK K
      try go_frame
      refine wpAnyH_done (by kernel_rfl) ?_ _
      clear hHeld
      go_wp2_with fail
      go_ret
      have hfin : ItemsOwn w4 B a4 c4 (S ++ [(({ x with level := (o.length : Int) } : ItemD), A, c)]) := by
        unfold ItemsOwn
        rw [List.length_append, List.flatMap_append]
        simpa using hown4
      have halloc : ∀ {e : TypeId} {size : Nat} {v : Value} {n : Nat} {xs : List Value}, W1.ownsRow B e size v n xs → e ≠ 50 → w4.ownsRow B e size v n xs := fun hr he =>
        own_grown (World.ownsRow.alloc (w := W1.drew) hr _) (World.ownsRow.alloc (w := W1.drew) H2.out _) he hg4
      refine ⟨rfl, ?_, (((hbW.mono hBw).drew).trans hb4).setCell hB _, fun g cs ty hg hty hgb => ?_⟩
      rotate_left
      · have hlt : g < w.heap.size := (Array.getElem?_eq_some_iff.1 hg).1
        have hg1 : W1.heap[g]? = w.heap[g]? := hbW.block g hlt
        have hlt1 : g < W1.heap.size := Nat.lt_trans hlt hz1
        have e1 : (w4.setCell ⟨b, 0, none⟩ (.slice a4 (S.length + 1) c4)).heap[g]? = w4.heap[g]? := (Lib.grownBy_setCell w4 b 0 _).block g (by omega) (fun e => by injection e with e; exact hgb e)
        have e2 : w4.heap[g]? = (W1.drew.alloc (.cells #[.int .i64 o.length, .int .i64 x.kind, .string ⟨x.name.toArray⟩, .string ⟨x.text.toArray⟩, .slice A x.attrs.length c] 50)).heap[g]? := hg4.block g (by show g < _; simp; omega) (fun e => by
          obtain ⟨_, _, cur, hc⟩ := own_type (World.ownsRow.alloc (w := W1.drew) H2.out _) g e.symm
          have e3 : (W1.drew.alloc (.cells #[.int .i64 o.length, .int .i64 x.kind, .string ⟨x.name.toArray⟩, .string ⟨x.text.toArray⟩, .slice A x.attrs.length c] 50)).heap[g]? = W1.heap[g]? := heap_alloc_old W1.drew _ hlt1
          rw [e3, hg1, hg] at hc
          injection hc with hc
          injection hc with _ hc
          exact hty hc)
        exact e1.trans (e2.trans ((heap_alloc_old W1.drew _ hlt1).trans hg1))
      rw [if_pos rfl]
      refine ⟨S ++ [(({ x with level := (o.length : Int) } : ItemD), A, c)], a4, c4, OA, Oc, ?_, own_set HB4.out _ hfin (by decide), fun s hs => ?_, ?_, ?_⟩
      · have := HB4.out.setItems a4 (S.length + 1) c4
        rw [List.length_append]
        exact this
      · refine own_set HB4.out _ (halloc (e := 44) ?_ (by decide)) (by decide)
        rcases List.mem_append.1 hs with hm | hm
        · exact H3.out s hm
        · simp at hm; subst hm
          have := HA.out
          rw [← hW1.out] at this
          exact this
      · refine open_set HB4.out _ ?_
        have h0 : OpenOwn (W1.drew.alloc (.cells #[.int .i64 o.length, .int .i64 x.kind, .string ⟨x.name.toArray⟩, .string ⟨x.text.toArray⟩, .slice A x.attrs.length c] 50)) B OA Oc o := OpenOwn.below (w := W1.drew) H4.out ((Below.refl _ _).alloc (Nat.le_refl _) _)
        exact h0.grown hg4 (fun g hg _ => by
          obtain ⟨_, _, cur, hc⟩ := own_type (World.ownsRow.alloc (w := W1.drew) H2.out _) g hg
          exact ⟨cur, _, hc, by decide⟩)
      · rw [List.map_append, H5.out]; rfl
    · go_simp
      refine hK.out _ _ (HS2.out) (fun hHeld => ?_)
      clear hK K
      try go_frame
      refine wpAnyH_ready (rs := [4]) (by kernel_rfl) (by simp) ?_
      refine AllReadyH.cons (o := ⟨_, _, _, _, _, _⟩) rfl (fun K hK => ?_) AllReadyH.nil
      go_simp
      refine hK.out _ _ (HS2.out) (fun hHeld => ?_)
      clear hK K
      try go_frame
      refine wpAnyH_ready (rs := [7]) (by kernel_rfl) (by simp) ?_
      refine AllReadyH.cons (o := ⟨_, _, _, _, _, _⟩) rfl (fun K hK => ?_) AllReadyH.nil
      refine appendSw (.tmp 43) (.tmp 45) 45 rfl B 50 (.agg #[.int .i64 0, .int .i64 0, .string ByteArray.empty, .string ByteArray.empty, .slice none 0 0]) 5 72 Try.underlying45 infoItem rfl (by decide) _ S.length _ (cellsI ({ x with level := o.length }, A, c)) rfl H2.out hzB _ rfl rfl (cellsI_length _) (cellsI_cell _) (by omega) (by decide) ?_
      intro a4 c4 w4 hown4 hb4 hz4 hg4
      have hz4' : W1.heap.size < w4.heap.size := hz4
      have HS4 : Hid (BoxI w4 w.heap.size o.length x A c) := BoxI.keep HS2.out (fun j => World.grownBy.cell_far hg4 ⟨w.heap.size, j, none⟩ (by show w.heap.size < _; simp; omega) (fun e => hown2 _ e.symm rfl))
      have HB4 : Hid (PBlk w4 b IA S.length Ic OA o.length Oc) := by
        have h0 : PBlk (W1.drew.alloc (.cells #[.int .i64 o.length, .int .i64 x.kind, .string ⟨x.name.toArray⟩, .string ⟨x.text.toArray⟩, .slice A x.attrs.length c] 50)) b IA S.length Ic OA o.length Oc := PBlk.below (w := W1.drew) HB1.out ((Below.refl _ _).alloc (Nat.le_refl _) _)
        exact (hg4.block b h0.lt (fun e => hownb e.symm)).trans h0
      obtain ⟨k0, _, kf0, _⟩ := HB4.out.cells
      refine hK.out _ _ (HS4.out) (fun hHeld => ?_)
      clear hK K
      try go_frame
      refine tks (oi := ⟨_, _, _, _, _, _⟩) (v := ?_) 8 rfl (.inl ⟨by rfl, ?_⟩) ?_; rotate_left
      · (intro wS hSw; (try dsimp only at hSw); go_simp); all_goals with_reducible rfl
      try go_frame
      refine tks (oi := ⟨_, _, _, _, _, _⟩) (v := ?_) 9 rfl (.inl ⟨by rfl, ?_⟩) ?_; rotate_left
      · (intro wS hSw; (try dsimp only at hSw); go_simp); all_goals with_reducible rfl
      try go_frame
      refine wpAnyH_ready (rs := [10]) (by kernel_rfl) (by simp) ?_
      refine AllReadyH.cons (o := ⟨_, _, _, _, _, _⟩) rfl (fun K hK => ?_) AllReadyH.nil
      go_simp
      have HS5 : Hid (BoxI (w4.setCell ⟨b, 0, none⟩ (.slice a4 (S.length + 1) c4)) w.heap.size o.length x A c) := BoxI.keep HS4.out (fun j => World.grownBy.cell_far (Lib.grownBy_setCell w4 b 0 _) ⟨w.heap.size, j, none⟩ (by show w.heap.size < _; omega) (fun e => by injection e with e; have e' : w.heap.size = b := e; omega))
      refine hK.out _ _ (HS5.out) (fun hHeld => ?_)
      clear hK K
      try go_frame
      refine wpAnyH_done (by kernel_rfl) ?_ _
      clear hHeld
      go_wp2_with fail
      go_ret
      have hfin : ItemsOwn w4 B a4 c4 (S ++ [(({ x with level := (o.length : Int) } : ItemD), A, c)]) := by
        unfold ItemsOwn
        rw [List.length_append, List.flatMap_append]
        simpa using hown4
      have halloc : ∀ {e : TypeId} {size : Nat} {v : Value} {n : Nat} {xs : List Value}, W1.ownsRow B e size v n xs → e ≠ 50 → w4.ownsRow B e size v n xs := fun hr he =>
        own_grown (World.ownsRow.alloc (w := W1.drew) hr _) (World.ownsRow.alloc (w := W1.drew) H2.out _) he hg4
      refine ⟨rfl, ?_, (((hbW.mono hBw).drew).trans hb4).setCell hB _, fun g cs ty hg hty hgb => ?_⟩
      rotate_left
      · have hlt : g < w.heap.size := (Array.getElem?_eq_some_iff.1 hg).1
        have hg1 : W1.heap[g]? = w.heap[g]? := hbW.block g hlt
        have hlt1 : g < W1.heap.size := Nat.lt_trans hlt hz1
        have e1 : (w4.setCell ⟨b, 0, none⟩ (.slice a4 (S.length + 1) c4)).heap[g]? = w4.heap[g]? := (Lib.grownBy_setCell w4 b 0 _).block g (by omega) (fun e => by injection e with e; exact hgb e)
        have e2 : w4.heap[g]? = (W1.drew.alloc (.cells #[.int .i64 o.length, .int .i64 x.kind, .string ⟨x.name.toArray⟩, .string ⟨x.text.toArray⟩, .slice A x.attrs.length c] 50)).heap[g]? := hg4.block g (by show g < _; simp; omega) (fun e => by
          obtain ⟨_, _, cur, hc⟩ := own_type (World.ownsRow.alloc (w := W1.drew) H2.out _) g e.symm
          have e3 : (W1.drew.alloc (.cells #[.int .i64 o.length, .int .i64 x.kind, .string ⟨x.name.toArray⟩, .string ⟨x.text.toArray⟩, .slice A x.attrs.length c] 50)).heap[g]? = W1.heap[g]? := heap_alloc_old W1.drew _ hlt1
          rw [e3, hg1, hg] at hc
          injection hc with hc
          injection hc with _ hc
          exact hty hc)
        exact e1.trans (e2.trans ((heap_alloc_old W1.drew _ hlt1).trans hg1))
      rw [if_pos rfl]
      refine ⟨S ++ [(({ x with level := (o.length : Int) } : ItemD), A, c)], a4, c4, OA, Oc, ?_, own_set HB4.out _ hfin (by decide), fun s hs => ?_, ?_, ?_⟩
      · have := HB4.out.setItems a4 (S.length + 1) c4
        rw [List.length_append]
        exact this
      · refine own_set HB4.out _ (halloc (e := 44) ?_ (by decide)) (by decide)
        rcases List.mem_append.1 hs with hm | hm
        · exact H3.out s hm
        · simp at hm; subst hm
          have := HA.out
          rw [← hW1.out] at this
          exact this
      · refine open_set HB4.out _ ?_
        have h0 : OpenOwn (W1.drew.alloc (.cells #[.int .i64 o.length, .int .i64 x.kind, .string ⟨x.name.toArray⟩, .string ⟨x.text.toArray⟩, .slice A x.attrs.length c] 50)) B OA Oc o := OpenOwn.below (w := W1.drew) H4.out ((Below.refl _ _).alloc (Nat.le_refl _) _)
        exact h0.grown hg4 (fun g hg _ => by
          obtain ⟨_, _, cur, hc⟩ := own_type (World.ownsRow.alloc (w := W1.drew) H2.out _) g hg
          exact ⟨cur, _, hc, by decide⟩)
      · rw [List.map_append, H5.out]; rfl
end Go.Proofs.Ythifddkmbjnncaa
