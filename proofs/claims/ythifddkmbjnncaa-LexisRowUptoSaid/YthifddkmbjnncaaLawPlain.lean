/-
  Plain laws of escapes: what is made of two texts; what is undone. No program in sight.
-/
import Derived.Test.YthifddkmbjnncaaUndoPlain
namespace Go.Proofs.Ythifddkmbjnncaa

/-! ### Characters and their bytes -/
theorem enc_ne (c : Int) : enc c ≠ [] := by
  unfold enc
  repeat (first | split | simp)

theorem bt_u8 (n : Int) (h0 : 0 ≤ n) (h1 : n < 256) : ((bt n).toNat : Int) = n := bt_toNat n h0 h1

/-- a character's bytes, with whatever behind, begin with it -/
theorem next_enc (c : Int) (hc : charB c = true) (r : List UInt8) : nextL (enc c ++ r) = (c, (enc c).length) := by
  have hb := charB_bd hc
  rcases (by omega : c < 128 ∨ (128 ≤ c ∧ c < 2048) ∨ (2048 ≤ c ∧ c < 65536) ∨ 65536 ≤ c) with h | ⟨h, h'⟩ | ⟨h, h'⟩ | h
  · have he : enc c = [bt c] := by unfold enc; rw [if_pos h]
    have h1 := bt_u8 c (by omega) (by omega)
    rw [he]
    show nextL (bt c :: r) = _
    simp only [nextL, h1]
    have e1 : headN c = 1 := by unfold headN; rw [if_pos h]
    have e2 : headC c = c := by unfold headC; rw [if_pos h]
    rw [e1, e2]
    simp [foldC, hc, he]
  · have he : enc c = [bt (192 + c / 64), bt (128 + c % 64)] := by unfold enc; rw [if_neg (by omega), if_pos (by omega)]
    have h1 := bt_u8 (192 + c / 64) (by omega) (by omega)
    have h2 := bt_u8 (128 + c % 64) (by omega) (by omega)
    rw [he]
    show nextL (bt (192 + c / 64) :: bt (128 + c % 64) :: r) = _
    simp only [nextL, h1]
    have e1 : headN (192 + c / 64) = 2 := by unfold headN; repeat (first | rw [if_pos (by omega)] | rw [if_neg (by omega)])
    have e2 : headC (192 + c / 64) = c / 64 := by unfold headC; repeat (first | rw [if_pos (by omega)] | rw [if_neg (by omega)]); omega
    rw [e1, e2]
    have e3 : foldC (c / 64) [bt (128 + c % 64)] = c := by simp only [foldC, List.foldl]; rw [h2]; omega
    have e4 : contB (bt (128 + c % 64)) = true := by unfold contB; rw [h2]; simp; omega
    simp [e3, e4, hc, he]
  · have he : enc c = [bt (224 + c / 4096), bt (128 + c / 64 % 64), bt (128 + c % 64)] := by unfold enc; rw [if_neg (by omega), if_neg (by omega), if_pos (by omega)]
    have h1 := bt_u8 (224 + c / 4096) (by omega) (by omega)
    have h2 := bt_u8 (128 + c / 64 % 64) (by omega) (by omega)
    have h3 := bt_u8 (128 + c % 64) (by omega) (by omega)
    rw [he]
    show nextL (bt (224 + c / 4096) :: bt (128 + c / 64 % 64) :: bt (128 + c % 64) :: r) = _
    simp only [nextL, h1]
    have e1 : headN (224 + c / 4096) = 3 := by unfold headN; repeat (first | rw [if_pos (by omega)] | rw [if_neg (by omega)])
    have e2 : headC (224 + c / 4096) = c / 4096 := by unfold headC; repeat (first | rw [if_pos (by omega)] | rw [if_neg (by omega)]); omega
    rw [e1, e2]
    have e3 : foldC (c / 4096) [bt (128 + c / 64 % 64), bt (128 + c % 64)] = c := by simp only [foldC, List.foldl]; rw [h2, h3]; omega
    have e4 : contB (bt (128 + c / 64 % 64)) = true := by unfold contB; rw [h2]; simp; omega
    have e5 : contB (bt (128 + c % 64)) = true := by unfold contB; rw [h3]; simp; omega
    simp [e3, e4, e5, hc, he]
  · have he : enc c = [bt (240 + c / 262144), bt (128 + c / 4096 % 64), bt (128 + c / 64 % 64), bt (128 + c % 64)] := by unfold enc; rw [if_neg (by omega), if_neg (by omega), if_neg (by omega)]
    have h1 := bt_u8 (240 + c / 262144) (by omega) (by omega)
    have h2 := bt_u8 (128 + c / 4096 % 64) (by omega) (by omega)
    have h3 := bt_u8 (128 + c / 64 % 64) (by omega) (by omega)
    have h4 := bt_u8 (128 + c % 64) (by omega) (by omega)
    rw [he]
    show nextL (bt (240 + c / 262144) :: bt (128 + c / 4096 % 64) :: bt (128 + c / 64 % 64) :: bt (128 + c % 64) :: r) = _
    simp only [nextL, h1]
    have e1 : headN (240 + c / 262144) = 4 := by unfold headN; repeat (first | rw [if_pos (by omega)] | rw [if_neg (by omega)])
    have e2 : headC (240 + c / 262144) = c / 262144 := by unfold headC; repeat (first | rw [if_pos (by omega)] | rw [if_neg (by omega)]); omega
    rw [e1, e2]
    have e3 : foldC (c / 262144) [bt (128 + c / 4096 % 64), bt (128 + c / 64 % 64), bt (128 + c % 64)] = c := by simp only [foldC, List.foldl]; rw [h2, h3, h4]; omega
    have e4 : contB (bt (128 + c / 4096 % 64)) = true := by unfold contB; rw [h2]; simp; omega
    have e5 : contB (bt (128 + c / 64 % 64)) = true := by unfold contB; rw [h3]; simp; omega
    have e6 : contB (bt (128 + c % 64)) = true := by unfold contB; rw [h4]; simp; omega
    simp [e3, e4, e5, e6, hc, he]

/-- what is told to begin a text is a character, and its bytes begin the text -/
theorem next_back (l : List UInt8) (c : Int) (n : Nat) (h : nextL l = (c, n)) (hn : n ≠ 0) : charB c = true ∧ l = enc c ++ l.drop n ∧ n = (enc c).length := by
  cases l with
  | nil =>
    have h2 : (0 : Nat) = n := congrArg Prod.snd h
    omega
  | cons b t =>
    simp only [nextL] at h
    split at h
    · injection h with _ h; omega
    · rename_i h0
      split at h
      · injection h with _ h; omega
      · rename_i hlen
        split at h
        · rename_i hg
          injection h with h1 h2
          rw [h1] at hg
          simp only [Bool.and_eq_true] at hg
          have he := eq_of_beq hg.2.2
          rw [h2] at he
          have hl : (enc c).length = n := by rw [he, List.length_cons, List.length_take]; omega
          refine ⟨hg.2.1, ?_, hl.symm⟩
          rw [he]
          obtain ⟨m, rfl⟩ : ∃ m, n = m + 1 := ⟨n - 1, by omega⟩
          simp
        · injection h with _ h; omega

/-- a text is made of characters just if it is their bytes, one behind the other -/
theorem chars_enc (cs : List Int) (h : cs.all charB = true) : charsL (cs.flatMap enc) = some cs := by
  induction cs with
  | nil => rfl
  | cons c cs ih =>
    simp only [List.all_cons, Bool.and_eq_true] at h
    have hn := next_enc c h.1 (cs.flatMap enc)
    have hne : enc c ≠ [] := enc_ne c
    rw [List.flatMap_cons, charsL_step _ (by simp [hne]) (by rw [hn]; simpa using hne), hn]
    simp [ih h.2]

theorem chars_back (l : List UInt8) (cs : List Int) (h : charsL l = some cs) : l = cs.flatMap enc ∧ cs.all charB = true := by
  have key : ∀ f (l : List UInt8) cs, l.length ≤ f → charsL l = some cs → l = cs.flatMap enc ∧ cs.all charB = true := by
    intro f
    induction f with
    | zero =>
      intro l cs hl h
      obtain rfl : l = [] := List.eq_nil_of_length_eq_zero (by omega)
      rw [charsL_nil] at h; injection h with h; subst h; exact ⟨rfl, rfl⟩
    | succ f ih =>
      intro l cs hl h
      by_cases hnil : l = []
      · subst hnil; rw [charsL_nil] at h; injection h with h; subst h; exact ⟨rfl, rfl⟩
      · by_cases hn : (nextL l).2 = 0
        · rw [charsL_bad l hnil hn] at h; cases h
        · rw [charsL_step l hnil hn] at h
          obtain ⟨c, n, hq⟩ : ∃ c n, nextL l = (c, n) := ⟨_, _, rfl⟩
          rw [hq] at hn h
          simp only at hn h
          obtain ⟨hc, he, hlen⟩ := next_back l c n hq hn
          cases hr : charsL (l.drop n) with
          | none => rw [hr] at h; cases h
          | some ds =>
            rw [hr] at h
            injection h with h
            have hp : 0 < l.length := List.length_pos_iff.2 hnil
            obtain ⟨h1, h2⟩ := ih _ ds (by rw [List.length_drop]; omega) hr
            subst h
            refine ⟨?_, ?_⟩
            · rw [List.flatMap_cons, ← h1]; exact he
            · rw [List.all_cons, hc, h2]; rfl
  exact key l.length l cs (Nat.le_refl _) h

theorem chars_append (a b : List UInt8) (cs ds : List Int) (ha : charsL a = some cs) (hb : charsL b = some ds) : charsL (a ++ b) = some (cs ++ ds) := by
  obtain ⟨h1, h2⟩ := chars_back a cs ha
  obtain ⟨h3, h4⟩ := chars_back b ds hb
  rw [h1, h3, ← List.flatMap_append]
  exact chars_enc _ (by rw [List.all_append, h2, h4]; rfl)

/-- what is made of two texts is what is made of each -/
theorem esc_append (v : Bool) (a b x y : List UInt8) (ha : escL v a = some x) (hb : escL v b = some y) : escL v (a ++ b) = some (x ++ y) := by
  unfold escL at *
  cases hca : charsL a with
  | none => rw [hca] at ha; cases ha
  | some cs =>
    cases hcb : charsL b with
    | none => rw [hcb] at hb; cases hb
    | some ds =>
      rw [hca] at ha; rw [hcb] at hb
      injection ha with ha; injection hb with hb
      subst ha; subst hb
      rw [chars_append a b cs ds hca hcb]
      simp

/-! ### What was escaped has none of the characters that mean something -/
def plainB (x : UInt8) : Bool := !(x == 60 || x == 62 || x == 34 || x == 9 || x == 10 || x == 13)

theorem bt_plain (n : Int) (h0 : 128 ≤ n) (h1 : n < 256) : plainB (bt n) = true := by
  have h := bt_u8 n (by omega) h1
  have key : ∀ k : UInt8, k.toNat < 128 → (bt n == k) = false := fun k hk => by
    cases hh : (bt n == k) with
    | false => rfl
    | true => have := eq_of_beq hh; rw [this] at h; omega
  unfold plainB
  rw [key 60 (by decide), key 62 (by decide), key 34 (by decide), key 9 (by decide), key 10 (by decide), key 13 (by decide)]
  rfl

theorem putF_plain (c : Int) (h0 : 0 ≤ c) (h : c ≠ 60 ∧ c ≠ 62 ∧ c ≠ 34 ∧ c ≠ 9 ∧ c ≠ 10 ∧ c ≠ 13) : (putF c).all plainB = true := by
  unfold putF
  split
  · rename_i hc
    have hb := charB_bd hc
    unfold enc
    split
    · rename_i h128
      have hx := bt_u8 c h0 (by omega)
      have key : ∀ k : UInt8, (k.toNat : Int) ≠ c → (bt c == k) = false := fun k hk => by
        cases hh : (bt c == k) with
        | false => rfl
        | true => have := eq_of_beq hh; rw [this] at hx; omega
      have : plainB (bt c) = true := by
        unfold plainB
        rw [key 60 (fun h' => h.1 h'.symm), key 62 (fun h' => h.2.1 h'.symm), key 34 (fun h' => h.2.2.1 h'.symm), key 9 (fun h' => h.2.2.2.1 h'.symm), key 10 (fun h' => h.2.2.2.2.1 h'.symm), key 13 (fun h' => h.2.2.2.2.2 h'.symm)]
        rfl
      simp [this]
    · split
      · simp only [List.all_cons, List.all_nil, bt_plain (192 + c / 64) (by omega) (by omega), bt_plain (128 + c % 64) (by omega) (by omega)]; rfl
      · split
        · simp only [List.all_cons, List.all_nil, bt_plain (224 + c / 4096) (by omega) (by omega), bt_plain (128 + c / 64 % 64) (by omega) (by omega), bt_plain (128 + c % 64) (by omega) (by omega)]; rfl
        · simp only [List.all_cons, List.all_nil, bt_plain (240 + c / 262144) (by omega) (by omega), bt_plain (128 + c / 4096 % 64) (by omega) (by omega), bt_plain (128 + c / 64 % 64) (by omega) (by omega), bt_plain (128 + c % 64) (by omega) (by omega)]; rfl
  · rfl

theorem written_plain (c : Int) (h0 : 0 ≤ c) : (writtenL true c).all plainB = true := by
  unfold writtenL
  split
  · decide
  split
  · decide
  split
  · decide
  split
  · decide
  split
  · decide
  split
  · decide
  split
  · decide
  · rename_i h1 h2 h3 h4 h5 h6 h7
    exact putF_plain c h0 ⟨h5, h6, fun h => h7 ⟨h, rfl⟩, fun h => h2 ⟨h, rfl⟩, fun h => h3 ⟨h, rfl⟩, h1⟩

theorem esc_plain (l o : List UInt8) (h : escL true l = some o) : o.all plainB = true := by
  unfold escL at h
  cases hc : charsL l with
  | none => rw [hc] at h; cases h
  | some cs =>
    rw [hc] at h
    injection h with h
    subst h
    obtain ⟨_, hall⟩ := chars_back l cs hc
    rw [List.all_flatMap, List.all_eq_true]
    intro c hcm
    rw [List.all_eq_true] at hall
    exact written_plain c (by have := charB_bd (hall c hcm); omega)

/-! ### What was escaped is no shorter -/
theorem written_longer (c : Int) (hc : charB c = true) : (enc c).length ≤ (writtenL false c).length ∧ (writtenL false c).length ≤ (writtenL true c).length := by
  have hp : putF c = enc c := by unfold putF; rw [if_pos hc]
  have e1 : ∀ k : Int, k < 128 → (enc k).length = 1 := fun k hk => by unfold enc; rw [if_pos hk]; rfl
  unfold writtenL
  by_cases h13 : c = 13
  · subst h13; simp [e1]
  by_cases h9 : c = 9
  · subst h9; simp [hp, e1]
  by_cases h10 : c = 10
  · subst h10; simp [hp, e1]
  by_cases h38 : c = 38
  · subst h38; simp [e1]
  by_cases h60 : c = 60
  · subst h60; simp [e1]
  by_cases h62 : c = 62
  · subst h62; simp [e1]
  by_cases h34 : c = 34
  · subst h34; simp [hp, e1]
  · simp [h13, h9, h10, h38, h60, h62, h34, hp]

theorem flat_le (f g : Int → List UInt8) (cs : List Int) (h : ∀ c ∈ cs, (f c).length ≤ (g c).length) : (cs.flatMap f).length ≤ (cs.flatMap g).length := by
  induction cs with
  | nil => simp
  | cons c cs ih =>
    simp only [List.flatMap_cons, List.length_append]
    have := h c (by simp)
    have := ih (fun c hc => h c (by simp [hc]))
    omega

theorem esc_longer (l a b : List UInt8) (ha : escL false l = some a) (hb : escL true l = some b) : l.length ≤ a.length ∧ a.length ≤ b.length := by
  unfold escL at ha hb
  cases hc : charsL l with
  | none => rw [hc] at ha; cases ha
  | some cs =>
    rw [hc] at ha hb
    injection ha with ha; injection hb with hb
    subst ha; subst hb
    obtain ⟨hl, hall⟩ := chars_back l cs hc
    rw [List.all_eq_true] at hall
    refine ⟨?_, flat_le _ _ cs fun c hcm => (written_longer c (hall c hcm)).2⟩
    rw [hl]
    exact flat_le _ _ cs fun c hcm => (written_longer c (hall c hcm)).1

/-! ### What was escaped is undone to what it was -/
theorem undo_enc (v : Bool) (c : Int) (hc : charB c = true) (r : List UInt8) : stepL v (writtenL v c ++ r) = .inr (enc c, (writtenL v c).length) := by
  have hp : putF c = enc c := by unfold putF; rw [if_pos hc]
  have amp : ∀ (t : List UInt8) (k : Int) (n : Nat), refL (38 :: t) = (k, n) → n ≠ 0 → charB k = true → stepL v (38 :: t) = .inr (enc k, n) := by
    intro t k n h hn hk
    have h38 : nextL (38 :: t) = (38, 1) := next_enc 38 (by decide) t
    simp only [stepL, h38]
    rw [if_neg (by omega), if_neg (by omega)]
    simp only [if_true, h, if_neg hn, hk]
    rw [if_neg (by decide)]
    have : putF k = enc k := by unfold putF; rw [if_pos hk]
    rw [this]
  have lit : ∀ (p : List UInt8) (k : Int) (t : List UInt8), p = 38 :: t → charB k = true → (∀ r, refL (p ++ r) = (k, p.length)) → stepL v (p ++ r) = .inr (enc k, p.length) := by
    intro p k t hp hk h
    have := h r
    rw [hp] at this ⊢
    exact amp _ k _ this (by simp) hk
  unfold writtenL
  by_cases h13 : c = 13
  · subst h13; rw [if_pos rfl]; exact lit _ 13 _ rfl hc (fun r => by rfl)
  rw [if_neg h13]
  by_cases h9 : c = 9 ∧ v = true
  · obtain ⟨rfl, _⟩ := h9; rw [if_pos ⟨rfl, by assumption⟩]; exact lit _ 9 _ rfl hc (fun r => by rfl)
  rw [if_neg h9]
  by_cases h10 : c = 10 ∧ v = true
  · obtain ⟨rfl, _⟩ := h10; rw [if_pos ⟨rfl, by assumption⟩]; exact lit _ 10 _ rfl hc (fun r => by rfl)
  rw [if_neg h10]
  by_cases h38 : c = 38
  · subst h38; rw [if_pos rfl]; exact lit _ 38 _ rfl hc (fun r => by rfl)
  rw [if_neg h38]
  by_cases h60 : c = 60
  · subst h60; rw [if_pos rfl]; exact lit _ 60 _ rfl hc (fun r => by rfl)
  rw [if_neg h60]
  by_cases h62 : c = 62
  · subst h62; rw [if_pos rfl]; exact lit _ 62 _ rfl hc (fun r => by rfl)
  rw [if_neg h62]
  by_cases h34 : c = 34 ∧ v = true
  · obtain ⟨rfl, _⟩ := h34; rw [if_pos ⟨rfl, by assumption⟩]; exact lit _ 34 _ rfl hc (fun r => by rfl)
  rw [if_neg h34, hp]
  have hn := next_enc c hc r
  have hl : (enc c).length ≠ 0 := by simpa using enc_ne c
  simp only [stepL, hn]
  rw [if_neg (by rintro ⟨_, h⟩; omega), if_neg]
  · simp only [if_neg h38, if_neg hl, hc]
    rw [if_neg (by decide), hp]
  · rintro (h | h | ⟨hv, h | h | h⟩)
    · exact hl h
    · exact h13 h
    · exact h34 ⟨h, hv⟩
    · exact h9 ⟨h, hv⟩
    · exact h10 ⟨h, hv⟩

theorem written_ne (v : Bool) (c : Int) (hc : charB c = true) : writtenL v c ≠ [] := by
  have hp : putF c = enc c := by unfold putF; rw [if_pos hc]
  have := enc_ne c
  unfold writtenL
  repeat (first | split | simp | (rw [hp]; exact this))

theorem undo_flat (v : Bool) (cs : List Int) (h : cs.all charB = true) : undoL v (cs.flatMap (writtenL v)) = (cs.flatMap enc, (cs.flatMap (writtenL v)).length, 0) := by
  induction cs with
  | nil => rfl
  | cons c cs ih =>
    simp only [List.all_cons, Bool.and_eq_true] at h
    have hs := undo_enc v c h.1 (cs.flatMap (writtenL v))
    rw [List.flatMap_cons, undoL_step v _ (by simp [written_ne v c h.1]) _ _ hs, List.drop_left, ih h.2]
    simp [joinU]

theorem undo_esc (v : Bool) (l o : List UInt8) (h : escL v l = some o) : undoL v o = (l, o.length, 0) := by
  unfold escL at h
  cases hc : charsL l with
  | none => rw [hc] at h; cases h
  | some cs =>
    rw [hc] at h
    injection h with h
    subst h
    obtain ⟨hl, hall⟩ := chars_back l cs hc
    rw [undo_flat v cs hall, ← hl]
end Go.Proofs.Ythifddkmbjnncaa
