/-
  Texts of this claim, joined (by a program of the claim's author): LexLaw2, LexLaw3, Toks, Row3.
-/
import Derived.Test.YthifddkmbjnncaaLR4
import Derived.Test.YthifddkmbjnncaaLR5
namespace Go.Proofs.Ythifddkmbjnncaa
set_option maxRecDepth 100000
set_option maxHeartbeats 16000000
section
/-! ## Blanks ahead of the end -/
def endB (e : List UInt8) : Prop := e = [62] ∨ e = [47, 62]
end
section
theorem charB_of_step {v : Bool} {l t : List UInt8} {n : Nat} (h : stepL v l = .inr (t, n)) : ∃ c, charB c = true ∧ t = enc c := by
 simp only [stepL] at h
 split at h
 ·cases h
 split at h
 ·cases h
 generalize (if (nextL l).fst = 38 then refL l else nextL l) = r at h
 split at h
 ·cases h
 split at h
 ·cases h
 rename_i hc
 injection h with h
 injection h with h _
 have hc' : charB r.1 = true := by simpa using hc
 refine ⟨_, hc', ?_⟩
 rw [← h]; unfold putF; rw [if_pos hc']
theorem undo_ne {v : Bool} {l : List UInt8} (hl : l ≠ []) (h : (undoL v l).2.2 = 0) : (undoL v l).1 ≠ [] := by
 cases hs : stepL v l with
 | inl e =>
  exfalso
  rw [undoL_bad v l hl e hs] at h
  have he : e = 0 := h
  subst he
  simp only [stepL] at hs
  split at hs
  ·injection hs with hs; omega
  split at hs
  ·injection hs with hs; omega
  generalize (if (nextL l).fst = 38 then refL l else nextL l) = r at hs
  split at hs
  ·injection hs with hs; omega
  split at hs
  ·injection hs with hs; omega
  ·cases hs
 | inr q =>
  obtain ⟨t, n⟩ := q
  obtain ⟨c, hc, rfl⟩ := charB_of_step hs
  rw [undoL_step v l hl _ n hs] at h ⊢
  unfold joinU at h ⊢
  split at h
  ·rename_i h0
   rw [if_pos h0]
   intro e
   exact enc_ne c (List.append_eq_nil_iff.1 e).1
  ·rename_i h0; exact absurd h h0
inductive TokFine (l : List UInt8) (t : TokD) (n : Nat) : Prop
 | text (hk : t.kind = 4) (hn : t.name = []) (ha : t.attrs = []) (h60 : pre [60] l = false) (hb : n = (l.takeWhile (· != 60)).length) (hu : (undoL false (l.takeWhile (· != 60))).2.2 = 0) (ht : t.text = (undoL false (l.takeWhile (· != 60))).1) (hl : t.text.length ≤ 1500)
 | stop (hk : t.kind = 2) (hn : nameL t.name = true) (ha : t.attrs = []) (ht : t.text = []) (h60 : pre [60] l = true)
 | start (hk : t.kind = 1 ∨ t.kind = 3) (hn : nameL t.name = true) (ht : t.text = []) (h60 : pre [60] l = true) (bs : List AttrD) (ha : t.attrs = sortA bs) (hf : AttrsFine bs)
theorem pre_first {a b : UInt8} {l : List UInt8} (h : pre [a, b] l = true) : pre [a] l = true := by
 obtain ⟨t, rfl⟩ := pre_cons2 h
 simp [pre]
theorem oneT_fine {l : List UInt8} {t : TokD} {n : Nat} (h : oneT l = .ok t n) : TokFine l t n := by
 unfold oneT at h
 split at h
 ·rename_i h1
  cases he : endT (l.drop 2) with
  | bad k e => rw [he] at h; cases h
  | ok u k =>
   rw [he] at h
   injection h with h _
   subst h
   unfold endT at he
   simp only at he
   split at he
   ·cases he
   rename_i h2
   split at he
   ·injection he with he _
    subst he
    exact .stop rfl (by simpa using h2) rfl rfl (pre_first h1)
   ·cases he
 ·split at h
  ·rename_i h1
   cases he : beginT (l.drop 1) with
   | bad k e => rw [he] at h; cases h
   | ok u k =>
    rw [he] at h
    injection h with h _
    subst h
    unfold beginT at he
    simp only at he
    split at he
    ·cases he
    rename_i h2
    cases hq : attrsF ((l.drop 1).length + 1) ((l.drop 1).drop (wordL (l.drop 1)).length) [] with
    | bad k e => rw [hq] at he; cases he
    | ok q m =>
     rw [hq] at he
     injection he with he _
     subst he
     obtain ⟨h3, h4⟩ := attrsF_fine _ _ _ _ _ attrsFine_nil hq
     exact .start h4 (by simpa using h2) rfl h1 q.2 rfl h3
  ·rename_i h1
   unfold textT at h
   simp only at h
   split at h
   ·cases h
   rename_i h2
   split at h
   ·cases h
   rename_i h3
   injection h with h hn
   subst h
   exact .text rfl rfl rfl (by simpa using h1) hn.symm (by simpa using h2) rfl (by simpa using h3)
theorem text_ne {l : List UInt8} {t : TokD} {n : Nat} (hl : l ≠ []) (h : oneT l = .ok t n) (hk : t.kind = 4) : t.text ≠ [] := by
 rcases oneT_fine h with ⟨_, _, _, h60, _, hu, ht, _⟩ | ⟨hk', _⟩ | ⟨hk', _⟩
 ·rw [ht]
  refine undo_ne ?_ hu
  cases l with
  | nil => exact absurd rfl hl
  | cons a r =>
   have : (a != 60) = true := by
    simp only [pre, List.length_cons, List.length_nil, List.take_succ_cons, List.take_zero] at h60
    cases h : a == 60 with
    | true => rw [eq_of_beq h] at h60; simp at h60
    | false => simp [bne, h]
   rw [List.takeWhile_cons, if_pos this]; simp
 ·omega
 ·omega
theorem behind_text {l : List UInt8} {t u : TokD} {n m : Nat} (h : oneT l = .ok t n) (hk : t.kind = 4) (hu : oneT (l.drop n) = .ok u m) (hne : l.drop n ≠ []) : u.kind ≠ 4 := by
 rcases oneT_fine h with ⟨_, _, _, h60, hn, _⟩ | ⟨hk', _⟩ | ⟨hk', _⟩
 ·intro hk'
  rcases oneT_fine hu with ⟨_, _, _, h60', _⟩ | ⟨hk', _⟩ | ⟨hk', _⟩
  ·subst hn
   have e : l.drop (l.takeWhile (· != 60)).length = l.dropWhile (· != 60) := by
    have h1 := span_word l (· != 60)
    have h2 := List.takeWhile_append_dropWhile (p := (· != 60)) (l := l)
    exact List.append_cancel_left (h1.symm.trans h2.symm)
   rw [e] at h60' hne
   have := List.head?_dropWhile_not (· != 60) l
   cases hd : l.dropWhile (· != 60) with
   | nil => exact hne hd
   | cons a r =>
    rw [hd] at this h60'
    simp at this
    subst this
    simp [pre] at h60'
  ·omega
  ·omega
 ·omega
 ·omega
end
section
open Go.RowKit
def TokAt (w : World) (ad : Addr) (k : Nat) (x : TSlot) : Prop :=
 w.cell? (ad.add (k * 5)) = some (.int .i64 x.1.2.kind) ∧ w.cell? ⟨(ad.add (k * 5)).block, (ad.add (k * 5)).off + 1, none⟩ = some (.int .i64 x.1.1) ∧ w.cell? ⟨(ad.add (k * 5)).block, (ad.add (k * 5)).off + 2, none⟩ = some (.string ⟨x.1.2.name.toArray⟩) ∧
  w.cell? ⟨(ad.add (k * 5)).block, (ad.add (k * 5)).off + 3, none⟩ = some (.string ⟨x.1.2.text.toArray⟩) ∧ w.cell? ⟨(ad.add (k * 5)).block, (ad.add (k * 5)).off + 4, none⟩ = some (.slice x.2.1 x.1.2.attrs.length x.2.2)
theorem TokAt.below {w w' : World} {ad : Addr} {k : Nat} {x : TSlot} (h : TokAt w ad k x) (hb : Below w.heap.size w w') (had : ad.block < w.heap.size) : TokAt w' ad k x := by
 have hk' : ∀ n, w'.cell? ⟨(ad.add (k * 5)).block, (ad.add (k * 5)).off + n, none⟩ = w.cell? ⟨(ad.add (k * 5)).block, (ad.add (k * 5)).off + n, none⟩ := fun n => hb.cell (by show (ad.add _).block < _; rw [block_of_add]; exact had)
 obtain ⟨h0, h1, h2, h3, h4⟩ := h
 exact ⟨(hb.cell (by rw [block_of_add]; exact had)).trans h0, (hk' _).trans h1, (hk' _).trans h2, (hk' _).trans h3, (hk' _).trans h4⟩
theorem TokensOwn.at {w : World} {B : Nat} {A : Option Addr} {c : Nat} {S : List TSlot} (h : TokensOwn w B A c S) (hl : 0 < S.length) :
  ∃ ad, A = some ad ∧ ad.block < w.heap.size ∧ ∀ k x, S[k]? = some x → TokAt w ad k x := by
 obtain ⟨g, rfl, hB, hg, hc⟩ := h.cells hl
 refine ⟨⟨g, 0, none⟩, rfl, hg, fun k x hx => ?_⟩
 unfold TokAt
 rw [add_zero_block]
 exact ⟨hc k x 0 _ hx rfl, hc k x 1 _ hx rfl, hc k x 2 _ hx rfl, hc k x 3 _ hx rfl, hc k x 4 _ hx rfl⟩
def RowOf : Nat → List UInt8 → List (Nat × TokD) → Prop
 | _, l, [] => l = []
 | p, l, (q, t) :: r => q = p ∧ l ≠ [] ∧ ∃ n, oneT l = .ok t n ∧ RowOf (p + n) (l.drop n) r
theorem allF_row : ∀ (f : Nat) (p : Nat) (l : List UInt8), l.length < f → (allF f p l).2.2 = 0 → RowOf p l (allF f p l).1
 | 0, _, _, h, _ => by omega
 | f + 1, p, l, hf, h => by
  rw [allF] at h ⊢
  split
  ·rename_i hl; exact hl
  ·rename_i hl
   rw [if_neg hl] at h
   have hw := oneT_within l hl
   cases ho : oneT l with
   | bad k e => rw [ho] at h hw; exact absurd h hw.2
   | ok t n =>
    rw [ho] at h hw
    simp only at h ⊢
    split
    ·rename_i hq
     obtain ⟨h1, h2⟩ := hw
     exact ⟨rfl, hl, n, ho, allF_row f (p + n) (l.drop n) (by rw [List.length_drop]; omega) hq⟩
    ·rename_i hq
     rw [if_neg hq] at h
     exact absurd h hq
theorem rowOf_len : ∀ (T : List (Nat × TokD)) (p : Nat) (l : List UInt8), RowOf p l T → T.length ≤ l.length
 | [], _, _, _ => Nat.zero_le _
 | (q, t) :: r, p, l, h => by
  obtain ⟨rfl, hl, n, ho, hr⟩ := h
  have hw := oneT_within l hl
  rw [ho] at hw
  obtain ⟨h1, h2⟩ := hw
  have := rowOf_len r _ _ hr
  rw [List.length_drop] at this
  simp only [List.length_cons]
  omega
theorem all_row {p : Nat} {l : List UInt8} (h : (allL p l).2.2 = 0) : RowOf p l (allL p l).1 := allF_row _ p l (Nat.lt_succ_self _) h
end
section
open Go.RowKit
theorem walk_LexisRow (s : ByteArray) (w : World) (hs1 : s.size ≤ 1048576) (_ : s.size ≤ maxLen) : Calls Try.prog 4 #[.string s] w (Ret w (.bool true)) := by
 have hs : s.size ≤ 1000000000 := by omega
 have HL := Lib.hid (size_toList s)
 obtain ⟨R, hR⟩ : ∃ R, Hid (allL 0 s.data.toList = R) := ⟨_, rfl⟩
 go_enter Try.func4, Try.ntmps4
 go_wp2_with fail
 refine (All_any s w hs R hR).mono ?_
 rintro e w1 ⟨hb1, hpost⟩
 rcases hpost with ⟨hR0, A, c, S, rfl, hown, hat, hS⟩ | ⟨hR0, rfl⟩
 ·have hrow0 : RowOf 0 (s.data.toList.drop 0) ((S.map (·.1)).drop 0) := by
   rw [List.drop_zero, List.drop_zero, hS, ← hR.out]
   exact all_row (by rw [hR.out]; exact hR0)
  have HOWN := Lib.hid hown
  have HSZ : S.length ≤ 1000000000 := by
   have := rowOf_len _ _ _ hrow0
   rw [List.drop_zero, List.drop_zero, HL.out, List.length_map] at this
   omega
  clear hown hat hS hR0
  go_wp2_with fail
  go_loopw [6, 29] (fun at_ i wr => ∃ (p k : Nat), p ≤ s.size ∧ k ≤ S.length ∧ at_ = .int .i64 p ∧ i = .int .i64 k ∧ Hid (RowOf p (s.data.toList.drop p) ((S.map (·.1)).drop k)) ∧ Hid (k = 0 ∨ ∃ x p' n', S[k - 1]? = some x ∧ oneT (s.data.toList.drop p') = .ok x.1.2 n' ∧ p = p' + n') ∧ Hid (Below w1.heap.size w1 wr)) (fun _ i _ => S.length - (intOf i).toNat)
  case atStart => exact ⟨0, 0, Nat.zero_le _, Nat.zero_le _, rfl, rfl, hrow0, .inl rfl, Below.refl _ _⟩
  case round =>
   obtain ⟨p, k, hps, hk, rfl, rfl, hrow, hprev, hbel⟩ := hrel
   by_cases hlt : k < S.length
   ·obtain ⟨ad, rfl, had, hc⟩ := HOWN.out.at (by omega)
    obtain ⟨⟨⟨q, t⟩, A1, c1⟩, hx⟩ : ∃ x, S[k]? = some x := ⟨S[k], List.getElem?_eq_getElem _⟩
    have hdr : (S.map (·.1)).drop k = (q, t) :: (S.map (·.1)).drop (k + 1) := drop_cons (by rw [List.getElem?_map, hx]; rfl)
    have hrow' := hrow.out
    rw [hdr] at hrow'
    obtain ⟨rfl, hne, n, ho, hrest⟩ := hrow'
    have htk := (hc k _ hx).below hbel.out had
    unfold TokAt at htk
    obtain ⟨h0, h1, h2, h3, h4⟩ := htk
    simp only at h0 h1 h2 h3 h4
    have hw := oneT_within _ hne
    rw [ho, List.length_drop, HL.out] at hw
    obtain ⟨hn1, hn2⟩ := hw
    have hqs : q < s.size := by omega
    obtain ⟨W1, hW1⟩ : ∃ W1, Hid (W1 = wr.alloc (.cells #[.int .i64 t.kind, .int .i64 q, .string ⟨t.name.toArray⟩, .string ⟨t.text.toArray⟩, .slice A1 t.attrs.length c1] 34)) := ⟨_, rfl⟩
    have y0 : W1.cell? ⟨wr.heap.size, 0, none⟩ = some (.int .i64 t.kind) := by rw [hW1.out, World.cell?_alloc_at _ _ _ _ (by simp)]; rfl
    have y1 : W1.cell? ⟨wr.heap.size, 1, none⟩ = some (.int .i64 q) := by rw [hW1.out, World.cell?_alloc_at _ _ _ _ (by simp)]; rfl
    have y3 : W1.cell? ⟨wr.heap.size, 3, none⟩ = some (.string ⟨t.text.toArray⟩) := by rw [hW1.out, World.cell?_alloc_at _ _ _ _ (by simp)]; rfl
    have hz1 : wr.heap.size < W1.heap.size := by rw [hW1.out]; simp
    have hbW1 : Below w1.heap.size w1 W1 := by rw [hW1.out]; exact hbel.out.alloc hbel.out.size _
    have HO := Lib.hid ho
    have HREST := Lib.hid hrest
    have HX := Lib.hid hx
    have HNE := Lib.hid hne
    have HC := Lib.hid hc
    clear ho hrest hx hne hdr hc
    go_wp2_with fail
    rw [← hW1.out]
    refine (One_any s q W1 hqs hs _ HO).mono ?_
    rintro e1 w2 ⟨hb2, hpost⟩
    obtain ⟨A2, c2, hee0, _⟩ := hpost
    have hee : e1 = .returned (.tuple #[.agg #[.int .i64 t.kind, .int .i64 q, .string ⟨t.name.toArray⟩, .string ⟨t.text.toArray⟩, .slice A2 t.attrs.length c2], .int .i64 (q + n : Nat), .int .i64 0, .int .i64 0]) := hee0
    clear hee0
    subst hee
    rw [← hb2.cell (p := ⟨wr.heap.size, 0, none⟩) hz1] at y0
    rw [← hb2.cell (p := ⟨wr.heap.size, 1, none⟩) hz1] at y1
    rw [← hb2.cell (p := ⟨wr.heap.size, 3, none⟩) hz1] at y3
    have hzz : wr.heap.size < w2.heap.size := by have := hb2.size; omega
    have hqn : (q : Int) < q + n := by omega
    have hbW2 : Below w1.heap.size w1 (w2.alloc (.cells #[.int .i64 t.kind, .int .i64 q, .string ⟨t.name.toArray⟩, .string ⟨t.text.toArray⟩, .slice A2 t.attrs.length c2] 34)) := (hbW1.trans (hb2.mono hbW1.size)).alloc (Nat.le_trans hbW1.size hb2.size) _
    clear h0 h1 h2 h3 h4 hW1
    have hnext : Hid (RowOf (q + n) (s.data.toList.drop (q + n)) ((S.map (·.1)).drop (k + 1))) := by
     have := HREST.out
     rw [List.drop_drop] at this
     exact this
    have hprev' : Hid (k + 1 = 0 ∨ ∃ x p' n', S[k + 1 - 1]? = some x ∧ oneT (s.data.toList.drop p') = .ok x.1.2 n' ∧ q + n = p' + n') := .inr ⟨_, q, n, HX.out, HO.out, rfl⟩
    by_cases hk4 : t.kind = 4
    ·have k4 : (t.kind == 4) = true := by simpa using hk4
     have htx : (t.text == []) = false := by
      have := text_ne HNE.out HO.out hk4
      simpa using this
     by_cases hk0 : k = 0
     ·have hk1 : decide ((0 : Int) < (k : Int)) = false := by simp; omega
      clear hk4 hk0
      go_wp2_with fail
      all_goals try (exfalso; simp at hk1; omega)
      go_roundw
      case rel => exact ⟨q + n, k + 1, by omega, by omega, by go_num, by go_num, hnext, hprev'.out, hbW2⟩
      case measure => simp [intOf]; omega
     ·obtain ⟨x', p', n', hx', ho', hpn⟩ : ∃ x p' n', S[k - 1]? = some x ∧ oneT (s.data.toList.drop p') = .ok x.1.2 n' ∧ q = p' + n' := by
       rcases hprev.out with h | h
       ·exact absurd h hk0
       ·exact h
      have hpk : (x'.1.2.kind == 4) = false := by
       by_cases h4 : x'.1.2.kind = 4
       ·exact absurd hk4 (behind_text ho' h4 (by rw [List.drop_drop, ← hpn]; exact HO.out) (by rw [List.drop_drop, ← hpn]; exact HNE.out))
       ·simpa using h4
      have hk1 : decide ((0 : Int) < (k : Int)) = true := by simp; omega
      have hk2 : 0 < k := by omega
      have hkw : IntKind.i64.wrap ((k : Int) - 1) = (k : Int) - 1 := IntWalk.i64_in _ (by omega)
      have hkn : ((k : Int) - 1).toNat = k - 1 := by omega
      have hkl0 : (0 : Int) ≤ (k : Int) - 1 := by omega
      have hkl1 : (k : Int) - 1 < S.length := by omega
      have htk := (HC.out (k - 1) _ hx').below (hbW1.trans (hb2.mono hbW1.size)) had
      obtain ⟨g0, _⟩ := htk
      have hgb : (ad.add ((k - 1) * 5)).block < w2.heap.size := by rw [block_of_add]; have := hbW1.size; have := hb2.size; omega
      have g0' : (w2.alloc (.cells #[.int .i64 t.kind, .int .i64 q, .string ⟨t.name.toArray⟩, .string ⟨t.text.toArray⟩, .slice A2 t.attrs.length c2] 34)).cell? (ad.add ((k - 1) * 5)) = some (.int .i64 x'.1.2.kind) := (World.cell?_alloc_lt _ _ _ hgb).trans g0
      clear hk4 hk0 hx' ho' hpn
      go_wp2_with fail
      all_goals try (exfalso; simp at hk1; omega)
      go_roundw
      case rel => exact ⟨q + n, k + 1, by omega, by omega, by go_num, by go_num, hnext, hprev'.out, hbW2⟩
      case measure => simp [intOf]; omega
    ·have k4 : (t.kind == 4) = false := by simpa using hk4
     clear hk4
     go_wp2_with fail
     all_goals try (exfalso; simp at hk1; omega)
     go_roundw
     case rel => exact ⟨q + n, k + 1, by omega, by omega, by go_num, by go_num, hnext, hprev'.out, hbW2⟩
     case measure => simp [intOf]; omega
   ·have HRE : Hid (p = s.size) := by
     have h := hrow.out
     have hd : (S.map (·.1)).drop k = [] := List.drop_eq_nil_of_le (by rw [List.length_map]; omega)
     rw [hd] at h
     have h2 : s.data.toList.drop p = [] := h
     have := congrArg List.length h2
     rw [List.length_drop, HL.out] at this
     simp at this
     show p = s.size
     omega
    go_wp2_with fail
    refine (alive3_any wr).mono ?_
    rintro e w4 ⟨rfl, hb4⟩
    go_wp2_with fail
    go_ret
    rw [HRE.out]
    exact ⟨by simp, hb1.trans ((hbel.out.trans (hb4.mono hbel.out.size)).mono hb1.size)⟩
 ·have he1 : (R.2.2 != 0) = true := by simpa using hR0
  clear hR0
  go_wp2_with fail
  refine (alive3_any w1).mono ?_
  rintro e w4 ⟨rfl, hb4⟩
  go_wp2_with fail
  go_ret
  exact ⟨rfl, hb1.trans (hb4.mono hb1.size)⟩
end
end Go.Proofs.Ythifddkmbjnncaa
