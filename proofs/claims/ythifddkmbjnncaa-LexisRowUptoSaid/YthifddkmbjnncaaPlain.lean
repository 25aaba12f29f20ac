/-
  The plain law of characters: numbers and bytes; no program in sight.
-/
namespace Go.Proofs.Ythifddkmbjnncaa

/-- is a number a character's? -/
def charB (c : Int) : Bool := decide (c = 9 ∨ c = 10 ∨ c = 13 ∨ (32 ≤ c ∧ c < 55296) ∨ (57344 ≤ c ∧ c < 65534) ∨ (65536 ≤ c ∧ c ≤ 1114111))

/-- a number as a byte -/
def bt (n : Int) : UInt8 := UInt8.ofNat n.toNat

theorem bt_toNat (n : Int) (h0 : 0 ≤ n) (h1 : n < 256) : ((bt n).toNat : Int) = n := by
  unfold bt
  rw [UInt8.toNat_ofNat']
  omega

theorem bt_toNat' (b : UInt8) : bt (b.toNat : Int) = b := by
  unfold bt
  simp

/-- a character's bytes -/
def enc (c : Int) : List UInt8 :=
  if c < 128 then [bt c]
  else if c < 2048 then [bt (192 + c / 64), bt (128 + c % 64)]
  else if c < 65536 then [bt (224 + c / 4096), bt (128 + c / 64 % 64), bt (128 + c % 64)]
  else [bt (240 + c / 262144), bt (128 + c / 4096 % 64), bt (128 + c / 64 % 64), bt (128 + c % 64)]

def putF (c : Int) : List UInt8 := if charB c then enc c else []


/-- what a first byte says -/
def headN (x : Int) : Nat := if x < 128 then 1 else if x < 192 then 0 else if x < 224 then 2 else if x < 240 then 3 else if x < 248 then 4 else 0
def headC (x : Int) : Int := if x < 128 then x else if x < 192 then 0 else if x < 224 then x % 32 else if x < 240 then x % 16 else if x < 248 then x % 8 else 0
/-- does a byte go on with a character? -/
def contB (b : UInt8) : Bool := decide (128 ≤ (b.toNat : Int) ∧ (b.toNat : Int) < 192)
def foldC (c : Int) (m : List UInt8) : Int := m.foldl (fun c x => c * 64 + (x.toNat : Int) % 64) c

theorem foldC_nil (c : Int) : foldC c [] = c := rfl
theorem foldC_snoc (c : Int) (m : List UInt8) (x : UInt8) : foldC c (m ++ [x]) = foldC c m * 64 + (x.toNat : Int) % 64 := by simp [foldC]

/-- the character that a text begins with: its number, how many bytes it has -/
def nextL : List UInt8 → Int × Nat
  | [] => (0, 0)
  | b :: t =>
    let n := headN b.toNat
    if n = 0 then (-1, 0)
    else if t.length + 1 < n then (-1, 0)
    else
      let m := t.take (n - 1)
      let c := foldC (headC b.toNat) m
      if m.all contB && (charB c && (enc c == b :: m)) then (c, n) else (-1, 0)

theorem headN_le (x : Int) : headN x ≤ 4 := by unfold headN; repeat (first | split | omega)
theorem headC_bd (x : Int) (h0 : 0 ≤ x) : 0 ≤ headC x ∧ headC x < 128 ∧ (2 ≤ headN x → headC x < 32) ∧ (3 ≤ headN x → headC x < 16) ∧ (4 ≤ headN x → headC x < 8) := by
  unfold headC headN
  repeat (first | split | omega)

theorem foldC_bd (x : Int) (h0 : 0 ≤ x) (m : List UInt8) (hm : m.length + 1 ≤ headN x) : ∀ k, k ≤ m.length → 0 ≤ foldC (headC x) (m.take k) ∧ foldC (headC x) (m.take k) < 2097152 := by
  have hb := headC_bd x h0
  have h4 := headN_le x
  have hx : ∀ b : UInt8, 0 ≤ (b.toNat : Int) % 64 ∧ (b.toNat : Int) % 64 < 64 := fun b => by omega
  intro k hk
  match m, hm, hk with
  | [], _, hk =>
    obtain rfl : k = 0 := by simpa using hk
    simp [foldC]; omega
  | [a], hm, hk =>
    have ha := hx a
    simp at hm hk
    match k, hk with
    | 0, _ => simp [foldC]; omega
    | 1, _ => simp [foldC]; omega
  | [a, b], hm, hk =>
    have ha := hx a; have hb' := hx b
    simp at hm hk
    match k, hk with
    | 0, _ => simp [foldC]; omega
    | 1, _ => simp [foldC]; omega
    | 2, _ => simp [foldC]; omega
  | [a, b, c], hm, hk =>
    have ha := hx a; have hb' := hx b; have hc' := hx c
    simp at hm hk
    match k, hk with
    | 0, _ => simp [foldC]; omega
    | 1, _ => simp [foldC]; omega
    | 2, _ => simp [foldC]; omega
    | 3, _ => simp [foldC]; omega
  | a :: b :: c :: d :: r, hm, hk => simp at hm; omega

/-! The document's way to read a character: the number out of the bytes, and tried. -/
def rN (x : Int) : Nat := if x < 192 then 1 else if x < 224 then 2 else if x < 240 then 3 else if x < 248 then 4 else 1
def rC (x : Int) : Int := if x < 192 then x else if x < 224 then x - 192 else if x < 240 then x - 224 else if x < 248 then x - 240 else x
def foldR (c : Int) (m : List UInt8) : Int := m.foldl (fun c x => c * 64 + (x.toNat : Int) - 128) c
theorem foldR_snoc (c : Int) (m : List UInt8) (x : UInt8) : foldR c (m ++ [x]) = foldR c m * 64 + (x.toNat : Int) - 128 := by simp [foldR]

theorem contB_enc (c : Int) (h0 : 0 ≤ c) (h1 : c ≤ 1114111) : ∀ b t, enc c = b :: t → t.all contB = true := by
  have hk : ∀ k : Int, 0 ≤ k → contB (bt (128 + k % 64)) = true := fun k hk => by
    unfold contB; rw [bt_toNat _ (by omega) (by omega)]; simp; omega
  intro b t h
  unfold enc at h
  split at h
  · injection h with _ h; subst h; rfl
  split at h
  · injection h with _ h; subst h; simp [hk c h0]
  split at h
  · injection h with _ h; subst h; simp [hk c h0, hk (c / 64) (by omega)]
  · injection h with _ h; subst h; simp [hk c h0, hk (c / 64) (by omega), hk (c / 4096) (by omega)]

theorem charB_bd {c : Int} (h : charB c = true) : 9 ≤ c ∧ c ≤ 1114111 := by simp [charB] at h; omega

theorem foldR_eq (m : List UInt8) : ∀ c, m.all contB = true → foldR c m = foldC c m := by
  induction m with
  | nil => intro c _; rfl
  | cons x m ih =>
    intro c h
    simp only [List.all_cons, Bool.and_eq_true] at h
    have hx : 128 ≤ (x.toNat : Int) ∧ (x.toNat : Int) < 192 := by simpa [contB] using h.1
    show foldR (c * 64 + (x.toNat : Int) - 128) m = foldC (c * 64 + (x.toNat : Int) % 64) m
    rw [ih _ h.2]
    congr 1
    omega

theorem enc_len1 (c : Int) (h : (enc c).length = 1) : c < 128 := by
  unfold enc at h
  split at h
  · assumption
  · split at h
    · simp at h
    · split at h <;> simp at h

/-- the document's way comes to the same -/
theorem rnext_eq (b : UInt8) (t : List UInt8) :
    (if t.length + 1 < rN b.toNat then ((-1 : Int), 0) else
      if charB (foldR (rC b.toNat) (t.take (rN b.toNat - 1))) && (enc (foldR (rC b.toNat) (t.take (rN b.toNat - 1))) == b :: t.take (rN b.toNat - 1)) then (foldR (rC b.toNat) (t.take (rN b.toNat - 1)), rN b.toNat) else (-1, 0)) = nextL (b :: t) := by
  have hb : (b.toNat : Int) < 256 := by have := b.toNat_lt; omega
  simp only [nextL]
  generalize hx : (b.toNat : Int) = x at *
  have hx0 : 0 ≤ x := by omega
  by_cases h1 : x < 128
  · have e1 : rN x = 1 := by unfold rN; rw [if_pos (by omega)]
    have e2 : headN x = 1 := by unfold headN; rw [if_pos h1]
    have e3 : rC x = x := by unfold rC; rw [if_pos (by omega)]
    have e4 : headC x = x := by unfold headC; rw [if_pos h1]
    simp [e1, e2, e3, e4, foldR, foldC]
  by_cases h2 : x < 192 ∨ 248 ≤ x
  · have e1 : rN x = 1 := by unfold rN; repeat (first | split | omega)
    have e2 : headN x = 0 := by unfold headN; repeat (first | split | omega)
    have e3 : rC x = x := by unfold rC; repeat (first | split | omega)
    have e4 : (enc x == [b]) = false := by
      cases hh : (enc x == [b]) with
      | false => rfl
      | true =>
        have := enc_len1 x (by rw [eq_of_beq hh]; rfl)
        omega
    simp [e1, e2, e3, foldR, e4]
  · have e1 : rN x = headN x := by unfold rN headN; repeat (first | split | omega)
    have e3 : rC x = headC x := by unfold rC headC; repeat (first | split | omega)
    have e2 : headN x ≠ 0 := by unfold headN; repeat (first | split | omega)
    rw [if_neg e2, e1, e3]
    split
    · rfl
    · cases ha : (t.take (headN x - 1)).all contB with
      | true => rw [foldR_eq _ _ ha]; simp
      | false =>
        have : (charB (foldR (headC x) (t.take (headN x - 1))) && (enc (foldR (headC x) (t.take (headN x - 1))) == b :: t.take (headN x - 1))) = false := by
          cases hh : (charB (foldR (headC x) (t.take (headN x - 1))) && (enc (foldR (headC x) (t.take (headN x - 1))) == b :: t.take (headN x - 1))) with
          | false => rfl
          | true =>
            rw [Bool.and_eq_true] at hh
            have hc := charB_bd hh.1
            have := contB_enc _ (by omega) hc.2 _ _ (eq_of_beq hh.2)
            rw [ha] at this; cases this
        rw [this]; simp

theorem foldR_bd (x : Int) (h0 : 0 ≤ x) (m : List UInt8) (hx2 : x < 256) (hm : m.length + 1 ≤ rN x) : ∀ k, k ≤ m.length → -1000000 < foldR (rC x) (m.take k) ∧ foldR (rC x) (m.take k) < 4194304 := by
  have hb : 0 ≤ rC x ∧ rC x < 256 ∧ (2 ≤ rN x → rC x < 32) ∧ (3 ≤ rN x → rC x < 16) ∧ (4 ≤ rN x → rC x < 8) ∧ rN x ≤ 4 := by
    unfold rC rN
    repeat (first | split | omega)
  have hx : ∀ b : UInt8, 0 ≤ (b.toNat : Int) ∧ (b.toNat : Int) < 256 := fun b => by have := b.toNat_lt; omega
  intro k hk
  match m, hm, hk with
  | [], _, hk =>
    obtain rfl : k = 0 := by simpa using hk
    simp [foldR]; omega
  | [a], hm, hk =>
    have ha := hx a
    simp at hm hk
    match k, hk with
    | 0, _ => simp [foldR]; omega
    | 1, _ => simp [foldR]; omega
  | [a, b], hm, hk =>
    have ha := hx a; have hb' := hx b
    simp at hm hk
    match k, hk with
    | 0, _ => simp [foldR]; omega
    | 1, _ => simp [foldR]; omega
    | 2, _ => simp [foldR]; omega
  | [a, b, c], hm, hk =>
    have ha := hx a; have hb' := hx b; have hc' := hx c
    simp at hm hk
    match k, hk with
    | 0, _ => simp [foldR]; omega
    | 1, _ => simp [foldR]; omega
    | 2, _ => simp [foldR]; omega
    | 3, _ => simp [foldR]; omega
  | a :: b :: c :: d :: r, hm, hk => simp at hm; omega
end Go.Proofs.Ythifddkmbjnncaa
