/-
  Texts of this claim, joined (by a program of the claim's author): Tk, Plain, EscPlain, NamePlain, Kit, ItemPlain, CheckPlain, NormPlain, PrintPlain, Items, Laid, Next, Starts, Start, Part.
-/
import Derived.Deep.RegionHeld3
import Derived.Maps.RangeWalk
import Derived.WalkKit
import Derived.WalkSpells
import Derived.WalkLawsBesides
import Derived.Lib.Hide
import Derived.Lib.UnsafeStr
import Derived.Lib.ConvBytes
import Derived.Lib.Builder
import Derived.Lib.BufferWrite
import Derived.Below
import Derived.Laws.OwnMore
import Derived.Deep.AppendLies
import Derived.Deep.Draws
import Derived.Laws.Rows
import Derived.Test.YthifddkmbjnncaaRows
import Derived.Lib.Strings
import Derived.Lib.IndexBytes
import Derived.Deep.WholeRow
/-
  Steps through a region that draws its order, in few words.
-/
namespace Go.Proofs.Ythifddkmbjnncaa

theorem tk {P : Program} {md : Region.Mode} {ops : Array Oper} {Q : Exit → Act → World → Prop} {S : World → Prop} {fuel : Nat} {listed : Array Bool} {a : Act} {w : World} {oi : Oper} {v : Value} (i : Nat) (hi : ops[i]? = some oi)
    (hb : (Region.noSelect ops && Region.free md ops listed i && (Region.ready md ops listed).contains i) = true) (hQ : ∀ c a w, Q (.panic c) (a.put oi.dst v) w → Q (.panic c) a w) (hy : YieldsIf P ops S oi v a) (hS : S w)
    (h : wpAnyH P md ops Q S fuel (listed.setIfInBounds i true) (a.put oi.dst v) w) : wpAnyH P md ops Q S (fuel + 1) listed a w := by
  simp only [Bool.and_eq_true] at hb
  exact wpAnyH_take hi hb.1.1 hb.1.2 hb.2 hQ hy hS h
end Go.Proofs.Ythifddkmbjnncaa

/-
  The plain law of characters: numbers and bytes; no program in sight.
-/
namespace Go.Proofs.Ythifddkmbjnncaa

/-- is a number a character's? -/
def charB (c : Int) : Bool := decide (c = 9 ∨ c = 10 ∨ c = 13 ∨ (32 ≤ c ∧ c < 55296) ∨ (57344 ≤ c ∧ c < 65534) ∨ (65536 ≤ c ∧ c ≤ 1114111))

/-- a number as a byte -/
def bt (n : Int) : UInt8 := UInt8.ofNat n.toNat

theorem bt_toNat (n : Int) (h0 : 0 ≤ n) (h1 : n < 256) : ((bt n).toNat : Int) = n := by
  unfold bt
  rw [UInt8.toNat_ofNat']
  omega

theorem bt_toNat' (b : UInt8) : bt (b.toNat : Int) = b := by
  unfold bt
  simp

/-- a character's bytes -/
def enc (c : Int) : List UInt8 :=
  if c < 128 then [bt c]
  else if c < 2048 then [bt (192 + c / 64), bt (128 + c % 64)]
  else if c < 65536 then [bt (224 + c / 4096), bt (128 + c / 64 % 64), bt (128 + c % 64)]
  else [bt (240 + c / 262144), bt (128 + c / 4096 % 64), bt (128 + c / 64 % 64), bt (128 + c % 64)]

def putF (c : Int) : List UInt8 := if charB c then enc c else []


/-- what a first byte says -/
def headN (x : Int) : Nat := if x < 128 then 1 else if x < 192 then 0 else if x < 224 then 2 else if x < 240 then 3 else if x < 248 then 4 else 0
def headC (x : Int) : Int := if x < 128 then x else if x < 192 then 0 else if x < 224 then x % 32 else if x < 240 then x % 16 else if x < 248 then x % 8 else 0
/-- does a byte go on with a character? -/
def contB (b : UInt8) : Bool := decide (128 ≤ (b.toNat : Int) ∧ (b.toNat : Int) < 192)
def foldC (c : Int) (m : List UInt8) : Int := m.foldl (fun c x => c * 64 + (x.toNat : Int) % 64) c

theorem foldC_nil (c : Int) : foldC c [] = c := rfl
theorem foldC_snoc (c : Int) (m : List UInt8) (x : UInt8) : foldC c (m ++ [x]) = foldC c m * 64 + (x.toNat : Int) % 64 := by simp [foldC]

/-- the character that a text begins with: its number, how many bytes it has -/
def nextL : List UInt8 → Int × Nat
  | [] => (0, 0)
  | b :: t =>
    let n := headN b.toNat
    if n = 0 then (-1, 0)
    else if t.length + 1 < n then (-1, 0)
    else
      let m := t.take (n - 1)
      let c := foldC (headC b.toNat) m
      if m.all contB && (charB c && (enc c == b :: m)) then (c, n) else (-1, 0)

theorem headN_le (x : Int) : headN x ≤ 4 := by unfold headN; repeat (first | split | omega)
theorem headC_bd (x : Int) (h0 : 0 ≤ x) : 0 ≤ headC x ∧ headC x < 128 ∧ (2 ≤ headN x → headC x < 32) ∧ (3 ≤ headN x → headC x < 16) ∧ (4 ≤ headN x → headC x < 8) := by
  unfold headC headN
  repeat (first | split | omega)

theorem foldC_bd (x : Int) (h0 : 0 ≤ x) (m : List UInt8) (hm : m.length + 1 ≤ headN x) : ∀ k, k ≤ m.length → 0 ≤ foldC (headC x) (m.take k) ∧ foldC (headC x) (m.take k) < 2097152 := by
  have hb := headC_bd x h0
  have h4 := headN_le x
  have hx : ∀ b : UInt8, 0 ≤ (b.toNat : Int) % 64 ∧ (b.toNat : Int) % 64 < 64 := fun b => by omega
  intro k hk
  match m, hm, hk with
  | [], _, hk =>
    obtain rfl : k = 0 := by simpa using hk
    simp [foldC]; omega
  | [a], hm, hk =>
    have ha := hx a
    simp at hm hk
    match k, hk with
    | 0, _ => simp [foldC]; omega
    | 1, _ => simp [foldC]; omega
  | [a, b], hm, hk =>
    have ha := hx a; have hb' := hx b
    simp at hm hk
    match k, hk with
    | 0, _ => simp [foldC]; omega
    | 1, _ => simp [foldC]; omega
    | 2, _ => simp [foldC]; omega
  | [a, b, c], hm, hk =>
    have ha := hx a; have hb' := hx b; have hc' := hx c
    simp at hm hk
    match k, hk with
    | 0, _ => simp [foldC]; omega
    | 1, _ => simp [foldC]; omega
    | 2, _ => simp [foldC]; omega
    | 3, _ => simp [foldC]; omega
  | a :: b :: c :: d :: r, hm, hk => simp at hm; omega

/-! The document's way to read a character: the number out of the bytes, and tried. -/
def rN (x : Int) : Nat := if x < 192 then 1 else if x < 224 then 2 else if x < 240 then 3 else if x < 248 then 4 else 1
def rC (x : Int) : Int := if x < 192 then x else if x < 224 then x - 192 else if x < 240 then x - 224 else if x < 248 then x - 240 else x
def foldR (c : Int) (m : List UInt8) : Int := m.foldl (fun c x => c * 64 + (x.toNat : Int) - 128) c
theorem foldR_snoc (c : Int) (m : List UInt8) (x : UInt8) : foldR c (m ++ [x]) = foldR c m * 64 + (x.toNat : Int) - 128 := by simp [foldR]

theorem contB_enc (c : Int) (h0 : 0 ≤ c) (h1 : c ≤ 1114111) : ∀ b t, enc c = b :: t → t.all contB = true := by
  have hk : ∀ k : Int, 0 ≤ k → contB (bt (128 + k % 64)) = true := fun k hk => by
    unfold contB; rw [bt_toNat _ (by omega) (by omega)]; simp; omega
  intro b t h
  unfold enc at h
  split at h
  · injection h with _ h; subst h; rfl
  split at h
  · injection h with _ h; subst h; simp [hk c h0]
  split at h
  · injection h with _ h; subst h; simp [hk c h0, hk (c / 64) (by omega)]
  · injection h with _ h; subst h; simp [hk c h0, hk (c / 64) (by omega), hk (c / 4096) (by omega)]

theorem charB_bd {c : Int} (h : charB c = true) : 9 ≤ c ∧ c ≤ 1114111 := by simp [charB] at h; omega

theorem foldR_eq (m : List UInt8) : ∀ c, m.all contB = true → foldR c m = foldC c m := by
  induction m with
  | nil => intro c _; rfl
  | cons x m ih =>
    intro c h
    simp only [List.all_cons, Bool.and_eq_true] at h
    have hx : 128 ≤ (x.toNat : Int) ∧ (x.toNat : Int) < 192 := by simpa [contB] using h.1
    show foldR (c * 64 + (x.toNat : Int) - 128) m = foldC (c * 64 + (x.toNat : Int) % 64) m
    rw [ih _ h.2]
    congr 1
    omega

theorem enc_len1 (c : Int) (h : (enc c).length = 1) : c < 128 := by
  unfold enc at h
  split at h
  · assumption
  · split at h
    · simp at h
    · split at h <;> simp at h

/-- the document's way comes to the same -/
theorem rnext_eq (b : UInt8) (t : List UInt8) :
    (if t.length + 1 < rN b.toNat then ((-1 : Int), 0) else
      if charB (foldR (rC b.toNat) (t.take (rN b.toNat - 1))) && (enc (foldR (rC b.toNat) (t.take (rN b.toNat - 1))) == b :: t.take (rN b.toNat - 1)) then (foldR (rC b.toNat) (t.take (rN b.toNat - 1)), rN b.toNat) else (-1, 0)) = nextL (b :: t) := by
  have hb : (b.toNat : Int) < 256 := by have := b.toNat_lt; omega
  simp only [nextL]
  generalize hx : (b.toNat : Int) = x at *
  have hx0 : 0 ≤ x := by omega
  by_cases h1 : x < 128
  · have e1 : rN x = 1 := by unfold rN; rw [if_pos (by omega)]
    have e2 : headN x = 1 := by unfold headN; rw [if_pos h1]
    have e3 : rC x = x := by unfold rC; rw [if_pos (by omega)]
    have e4 : headC x = x := by unfold headC; rw [if_pos h1]
    simp [e1, e2, e3, e4, foldR, foldC]
  by_cases h2 : x < 192 ∨ 248 ≤ x
  · have e1 : rN x = 1 := by unfold rN; repeat (first | split | omega)
    have e2 : headN x = 0 := by unfold headN; repeat (first | split | omega)
    have e3 : rC x = x := by unfold rC; repeat (first | split | omega)
    have e4 : (enc x == [b]) = false := by
      cases hh : (enc x == [b]) with
      | false => rfl
      | true =>
        have := enc_len1 x (by rw [eq_of_beq hh]; rfl)
        omega
    simp [e1, e2, e3, foldR, e4]
  · have e1 : rN x = headN x := by unfold rN headN; repeat (first | split | omega)
    have e3 : rC x = headC x := by unfold rC headC; repeat (first | split | omega)
    have e2 : headN x ≠ 0 := by unfold headN; repeat (first | split | omega)
    rw [if_neg e2, e1, e3]
    split
    · rfl
    · cases ha : (t.take (headN x - 1)).all contB with
      | true => rw [foldR_eq _ _ ha]; simp
      | false =>
        have : (charB (foldR (headC x) (t.take (headN x - 1))) && (enc (foldR (headC x) (t.take (headN x - 1))) == b :: t.take (headN x - 1))) = false := by
          cases hh : (charB (foldR (headC x) (t.take (headN x - 1))) && (enc (foldR (headC x) (t.take (headN x - 1))) == b :: t.take (headN x - 1))) with
          | false => rfl
          | true =>
            rw [Bool.and_eq_true] at hh
            have hc := charB_bd hh.1
            have := contB_enc _ (by omega) hc.2 _ _ (eq_of_beq hh.2)
            rw [ha] at this; cases this
        rw [this]; simp

theorem foldR_bd (x : Int) (h0 : 0 ≤ x) (m : List UInt8) (hx2 : x < 256) (hm : m.length + 1 ≤ rN x) : ∀ k, k ≤ m.length → -1000000 < foldR (rC x) (m.take k) ∧ foldR (rC x) (m.take k) < 4194304 := by
  have hb : 0 ≤ rC x ∧ rC x < 256 ∧ (2 ≤ rN x → rC x < 32) ∧ (3 ≤ rN x → rC x < 16) ∧ (4 ≤ rN x → rC x < 8) ∧ rN x ≤ 4 := by
    unfold rC rN
    repeat (first | split | omega)
  have hx : ∀ b : UInt8, 0 ≤ (b.toNat : Int) ∧ (b.toNat : Int) < 256 := fun b => by have := b.toNat_lt; omega
  intro k hk
  match m, hm, hk with
  | [], _, hk =>
    obtain rfl : k = 0 := by simpa using hk
    simp [foldR]; omega
  | [a], hm, hk =>
    have ha := hx a
    simp at hm hk
    match k, hk with
    | 0, _ => simp [foldR]; omega
    | 1, _ => simp [foldR]; omega
  | [a, b], hm, hk =>
    have ha := hx a; have hb' := hx b
    simp at hm hk
    match k, hk with
    | 0, _ => simp [foldR]; omega
    | 1, _ => simp [foldR]; omega
    | 2, _ => simp [foldR]; omega
  | [a, b, c], hm, hk =>
    have ha := hx a; have hb' := hx b; have hc' := hx c
    simp at hm hk
    match k, hk with
    | 0, _ => simp [foldR]; omega
    | 1, _ => simp [foldR]; omega
    | 2, _ => simp [foldR]; omega
    | 3, _ => simp [foldR]; omega
  | a :: b :: c :: d :: r, hm, hk => simp at hm; omega
end Go.Proofs.Ythifddkmbjnncaa

/-
  The plain law of escapes: no program in sight.
-/
namespace Go.Proofs.Ythifddkmbjnncaa

def writtenL (v : Bool) (c : Int) : List UInt8 :=
  if c = 13 then [38, 35, 49, 51, 59]
  else if c = 9 ∧ v = true then [38, 35, 57, 59]
  else if c = 10 ∧ v = true then [38, 35, 49, 48, 59]
  else if c = 38 then [38, 97, 109, 112, 59]
  else if c = 60 then [38, 108, 116, 59]
  else if c = 62 then [38, 103, 116, 59]
  else if c = 34 ∧ v = true then [38, 113, 117, 111, 116, 59]
  else putF c

theorem putF_len (c : Int) : (putF c).length ≤ 4 := by
  unfold putF enc
  repeat (first | split | simp)
theorem writtenL_len (v : Bool) (c : Int) : (writtenL v c).length ≤ 6 := by
  have := putF_len c
  unfold writtenL
  repeat (first | split | simp)
  omega

/-- the characters of a text; with fuel -/
def charsF : Nat → List UInt8 → Option (List Int)
  | 0, l => if l = [] then some [] else none
  | f + 1, l => if l = [] then some [] else if (nextL l).2 = 0 then none else (charsF f (l.drop (nextL l).2)).map ((nextL l).1 :: ·)

theorem charsF_more (f : Nat) : ∀ (l : List UInt8) (g : Nat), l.length ≤ f → l.length ≤ g → charsF f l = charsF g l := by
  induction f with
  | zero =>
    intro l g h _
    obtain rfl : l = [] := List.eq_nil_of_length_eq_zero (by omega)
    cases g <;> simp [charsF]
  | succ f ih =>
    intro l g h h'
    by_cases hl : l = []
    · subst hl; cases g <;> simp [charsF]
    · have hp : 0 < l.length := List.length_pos_iff.2 hl
      obtain ⟨g, rfl⟩ : ∃ g', g = g' + 1 := ⟨g - 1, by omega⟩
      simp only [charsF, if_neg hl]
      by_cases hn : (nextL l).2 = 0
      · rw [if_pos hn, if_pos hn]
      · rw [if_neg hn, if_neg hn, ih _ g (by rw [List.length_drop]; omega) (by rw [List.length_drop]; omega)]

def charsL (l : List UInt8) : Option (List Int) := charsF l.length l

theorem charsL_nil : charsL [] = some [] := rfl
theorem charsL_bad (l : List UInt8) (h : l ≠ []) (hn : (nextL l).2 = 0) : charsL l = none := by
  unfold charsL
  cases hl : l.length with
  | zero => exact absurd (List.eq_nil_of_length_eq_zero hl) h
  | succ f => simp only [charsF, if_neg h, if_pos hn]
theorem charsL_step (l : List UInt8) (h : l ≠ []) (hn : (nextL l).2 ≠ 0) : charsL l = (charsL (l.drop (nextL l).2)).map ((nextL l).1 :: ·) := by
  unfold charsL
  have hp : 0 < l.length := List.length_pos_iff.2 h
  obtain ⟨f, hf⟩ : ∃ f, l.length = f + 1 := ⟨l.length - 1, by omega⟩
  rw [hf]
  simp only [charsF, if_neg h, if_neg hn]
  rw [charsF_more f _ (l.drop (nextL l).2).length (by rw [List.length_drop]; omega) (Nat.le_refl _)]

/-- what is made of a text -/
def escL (v : Bool) (l : List UInt8) : Option (List UInt8) := (charsL l).map (fun cs => cs.flatMap (writtenL v))

theorem escL_nil (v : Bool) : escL v [] = some [] := rfl
theorem escL_bad (v : Bool) (l : List UInt8) (h : l ≠ []) (hn : (nextL l).2 = 0) : escL v l = none := by
  unfold escL; rw [charsL_bad l h hn]; rfl
theorem escL_step (v : Bool) (l : List UInt8) (h : l ≠ []) (hn : (nextL l).2 ≠ 0) : escL v l = (escL v (l.drop (nextL l).2)).map (writtenL v (nextL l).1 ++ ·) := by
  unfold escL
  rw [charsL_step l h hn]
  cases charsL (l.drop (nextL l).2) <;> simp

theorem nextL_le (l : List UInt8) : (nextL l).2 ≤ l.length ∧ (nextL l).2 ≤ 4 := by
  match l with
  | [] => simp [nextL]
  | b :: t =>
    have h4 := headN_le b.toNat
    simp only [nextL]
    split
    · simp
    · split
      · simp
      · split
        · simp; omega
        · simp
theorem nextL_bd (l : List UInt8) : -1 ≤ (nextL l).1 ∧ (nextL l).1 ≤ 1114111 := by
  match l with
  | [] => simp [nextL]
  | b :: t =>
    simp only [nextL]
    split
    · simp
    · split
      · simp
      · split
        · rename_i h
          simp only [Bool.and_eq_true] at h
          have := charB_bd h.2.1
          simp only
          omega
        · simp
end Go.Proofs.Ythifddkmbjnncaa

/-
  The plain law of names: no program in sight.
-/
namespace Go.Proofs.Ythifddkmbjnncaa

def startB (c : Int) : Bool := decide ((65 ≤ c ∧ c ≤ 90) ∨ c = 95 ∨ (97 ≤ c ∧ c ≤ 122) ∨ (192 ≤ c ∧ c ≤ 214) ∨ (216 ≤ c ∧ c ≤ 246) ∨ (248 ≤ c ∧ c ≤ 767) ∨ (880 ≤ c ∧ c ≤ 893) ∨ (895 ≤ c ∧ c ≤ 8191) ∨ (8204 ≤ c ∧ c ≤ 8205) ∨ (8304 ≤ c ∧ c ≤ 8591) ∨ (11264 ≤ c ∧ c ≤ 12271) ∨ (12289 ≤ c ∧ c ≤ 55295) ∨ (63744 ≤ c ∧ c ≤ 64975) ∨ (65008 ≤ c ∧ c ≤ 65533) ∨ (65536 ≤ c ∧ c ≤ 983039))
def partB (c : Int) : Bool := startB c || decide ((45 ≤ c ∧ c ≤ 46) ∨ (48 ≤ c ∧ c ≤ 57) ∨ c = 183 ∨ (768 ≤ c ∧ c ≤ 879) ∨ (8255 ≤ c ∧ c ≤ 8256))
def nameL (l : List UInt8) : Bool := match charsL l with
  | some (c :: cs) => decide (l.length ≤ 60) && (startB c && (partB c && cs.all partB))
  | _ => false

def okF : Bool → List Int → Bool
  | _, [] => true
  | first, c :: cs => (partB c && (!first || startB c)) && okF false cs
/-- what glyph.each answers for a name's characters, k of them read -/
def eachI (k : Nat) (l : List UInt8) : Int := match charsL l with
  | some cs => if okF (k == 0) cs then ((k + cs.length : Nat) : Int) else -1
  | none => -1
theorem eachI_nil (k : Nat) : eachI k [] = k := by unfold eachI; rw [charsL_nil]; simp [okF]
theorem eachI_bad (k : Nat) (l : List UInt8) (h : l ≠ []) (hn : (nextL l).2 = 0) : eachI k l = -1 := by
  unfold eachI; rw [charsL_bad l h hn]
theorem eachI_no (k : Nat) (l : List UInt8) (h : l ≠ []) (hn : (nextL l).2 ≠ 0) (hr : (partB (nextL l).1 && (!(k == 0) || startB (nextL l).1)) = false) : eachI k l = -1 := by
  unfold eachI; rw [charsL_step l h hn]
  cases charsL (l.drop (nextL l).2) with
  | none => rfl
  | some cs => simp only [Option.map_some, okF, hr, Bool.false_and]; rfl
theorem eachI_step (k : Nat) (l : List UInt8) (h : l ≠ []) (hn : (nextL l).2 ≠ 0) (hr : (partB (nextL l).1 && (!(k == 0) || startB (nextL l).1)) = true) : eachI k l = eachI (k + 1) (l.drop (nextL l).2) := by
  unfold eachI; rw [charsL_step l h hn]
  cases charsL (l.drop (nextL l).2) with
  | none => rfl
  | some cs =>
    have : (k + 1 == 0) = false := by simp
    simp only [Option.map_some, okF, hr, Bool.true_and, this, List.length_cons]
    have : k + (cs.length + 1) = k + 1 + cs.length := by omega
    rw [this]
theorem okF_false (cs : List Int) : okF false cs = cs.all partB := by
  induction cs with
  | nil => rfl
  | cons c cs ih => simp [okF, ih]
theorem nameL_each (l : List UInt8) : nameL l = (decide (l.length ≤ 60) && decide (l ≠ [] ∧ 0 < eachI 0 l)) := by
  unfold nameL eachI
  by_cases hl : l = []
  · subst hl; rw [charsL_nil]; rfl
  · cases hc : charsL l with
    | none => simp
    | some cs =>
      cases cs with
      | nil =>
        exfalso
        by_cases hn : (nextL l).2 = 0
        · rw [charsL_bad l hl hn] at hc; cases hc
        · rw [charsL_step l hl hn] at hc
          cases hd : charsL (l.drop (nextL l).2) <;> rw [hd] at hc <;> simp at hc
      | cons c cs =>
        simp only [okF, okF_false]
        have e0 : ((0 : Nat) == 0) = true := rfl
        rw [e0]
        cases partB c <;> cases startB c <;> cases cs.all partB <;> simp [hl]
end Go.Proofs.Ythifddkmbjnncaa

/-
  Small laws over any program, for the walks of this seat: a slice of the call's own that grows by one element; bytes made into a string.
-/
namespace Go.Proofs.Ythifddkmbjnncaa
open Go.RowKit

/-- What a pure function leaves: an ending, and all that was there as it was. -/
def Ret (w : World) (v : Value) (e : Ending) (w' : World) : Prop := e = .returned v ∧ Below w.heap.size w w'

/-! Endings: their numbers apart. -/
theorem ret_int {k : IntKind} {a b : Int} (h : a = b) : Ending.returned (.int k a) = .returned (.int k b) := by rw [h]
theorem ret_bool {a b : Bool} (h : a = b) : Ending.returned (.bool a) = .returned (.bool b) := by rw [h]
theorem ret_ii {k j : IntKind} {a b a' b' : Int} (ha : a = a') (hb : b = b') : Ending.returned (.tuple #[.int k a, .int j b]) = .returned (.tuple #[.int k a', .int j b']) := by rw [ha, hb]
theorem ret_str {a b : List UInt8} (h : a = b) : Ending.returned (.string ⟨a.toArray⟩) = .returned (.string ⟨b.toArray⟩) := by rw [h]
theorem ret_sb {a b : ByteArray} {c d : Bool} (h : a = b) (h' : c = d) : Ending.returned (.tuple #[.string a, .bool c]) = .returned (.tuple #[.string b, .bool d]) := by rw [h, h']
theorem ret_sii {k j : IntKind} {a b : ByteArray} {c d c' d' : Int} (h : a = b) (h' : c = c') (h'' : d = d') : Ending.returned (.tuple #[.string a, .int k c, .int j d]) = .returned (.tuple #[.string b, .int k c', .int j d']) := by rw [h, h', h'']

theorem below_size {B : Nat} {w w' : World} (h : Below B w w') : w.heap.size ≤ w'.heap.size := h.size

theorem bcell {W w1 : World} (hb : Below W.heap.size W w1) : (∀ b o, b < W.heap.size → w1.cell? ⟨b, o, none⟩ = W.cell? ⟨b, o, none⟩) ∧ (∀ b o, b < W.heap.size → w1.frozen? ⟨b, o, none⟩ = W.frozen? ⟨b, o, none⟩) :=
  ⟨fun b o h => hb.cell (p := ⟨b, o, none⟩) h, fun b o h => hb.frozen (p := ⟨b, o, none⟩) h⟩

/-- A literal of one element is owned. -/
theorem own_lit (w : World) (e : TypeId) (u : Value) (B : Nat) (hB : B ≤ w.heap.size) : (w.alloc (.cells #[u] e)).ownsRow B e 1 (.slice (some ⟨w.heap.size, 0, none⟩) 1 1) 1 [u] :=
  ⟨by simp, .inr ⟨w.heap.size, 1, #[u], rfl, hB, heap_alloc_new w _, Nat.le_refl _, by decide, by simp, by simp⟩⟩

/-- What is owned stays owned while what lies below a number stands. -/
theorem own_below {w w' : World} {B : Nat} {e : TypeId} {size : Nat} {v : Value} {n : Nat} {xs : List Value} (h : w.ownsRow B e size v n xs) (hb : Below w.heap.size w w') : w'.ownsRow B e size v n xs := by
  refine ⟨h.1, ?_⟩
  rcases h.2 with hn | ⟨g, cap, cur, rfl, h1, h2, rest⟩
  · exact .inl hn
  · refine .inr ⟨g, cap, cur, rfl, h1, ?_, rest⟩
    rw [hb.block g (Array.getElem?_eq_some_iff.1 h2).1]
    exact h2

/-- append(b, x), x one cell, to a slice that is the call's own. -/
theorem append1 {P : Program} {w : World} {ops : Array Oper} {rest : List Oper} {o : Oper} {a : Act} {Q : Exit → Act → World → Prop} (hgd : o.guard = none) (s x : Operand) (t : TypeId)
    (ho : o.op = .call { callee := .builtin .append, args := #[s, x], argTypes := #[t, t] })
    (B : Nat) (e : TypeId) (z : Value) (bytes : Nat) (ht : P.underlying t = some (.slice e)) (hi : (P.info? e).map (fun i => (i.zero, i.size, i.bytes)) = some (some z, 1, bytes))
    (hzs : z.cells.size = 1)
    (v : Value) (n : Nat) (xs : List Value) (u : Value) (hs : a.eval s = v) (hown : w.ownsRow B e 1 v n xs) (hB : B ≤ w.heap.size)
    (X : Nat) (hx : a.eval x = .slice (some ⟨X, 0, none⟩) 1 1) (hX : X = w.heap.size) (hu : u.oneCell' = true) (hn : n < 4294967296) (hby : bytes ≤ 1000)
    (h : ∀ g c w', w'.ownsRow B e 1 (.slice (some ⟨g, 0, none⟩) (n + 1) c) (n + 1) (xs ++ [u]) → Below B w w' → w.heap.size < w'.heap.size → wpList P ops Q rest (a.put o.dst (.slice (some ⟨g, 0, none⟩) (n + 1) c)) w') :
    wpList P ops Q (o :: rest) a (w.alloc (.cells #[u] e)) := by
  subst hX
  obtain ⟨i0, hi0, hz0, hz1, hz2⟩ := info_parts hi
  refine wpList_append_own _ hgd s x t ho B e i0 z 1 bytes ht hi0 hz0 hz1 hz2 hzs (by decide) v n xs hs (hown.alloc _) ⟨w.heap.size, 0, none⟩ 1 1 [u] hx rfl (cell_one_new _ _ _) (by intro y hy; simp at hy; subst hy; exact hu)
    (by unfold maxLen; omega) ?_ (by simp; omega) ?_
  · have : (n + 1) * bytes ≤ 4294967296 * 1000 := Nat.mul_le_mul (by omega) hby
    omega
  · intro v' w' hown' hg _
    obtain ⟨g, c, rfl⟩ : ∃ g c, v' = .slice (some ⟨g, 0, none⟩) (n + 1) c := by
      rcases hown'.2 with ⟨_, h0⟩ | ⟨g, c, cur, hv, _⟩
      · omega
      · exact ⟨g, c, hv⟩
    refine h g c w' hown' (((Below.refl B w).alloc hB _).grown hg (by simp; omega) (fun k hk => (hown.lt k hk).1)) ?_
    have := hg.size
    simp at this
    omega

theorem foldl_push (l : List UInt8) : ∀ r : ByteArray, (l.map (fun b => (b.toNat : Int))).foldl (fun r n => r.push (UInt8.ofNat n.toNat)) r = ⟨r.data ++ l.toArray⟩ := by
  induction l with
  | nil => intro r; simp
  | cons b l ih =>
    intro r
    simp only [List.map_cons, List.foldl_cons]
    rw [ih]
    simp [ByteArray.push]

/-- string(b) of a slice that is the call's own. -/
theorem run_string_own {P : Program} {w : World} {src dst e : TypeId} {B : Nat} {g c n : Nat} {l : List UInt8} (hown : w.ownsRow B e 1 (.slice (some ⟨g, 0, none⟩) n c) n (Lib.byteCells l))
    (hs : P.underlying src = some (.slice e)) (he : P.underlying e = some (.int .u8)) (hd : P.underlying dst = some .string) :
    (convert src dst (.slice (some ⟨g, 0, none⟩) n c)).run P w = .ok (.string ⟨l.toArray⟩) w := by
  have hl : l.length = n := by have := hown.1; simpa [Lib.byteCells_length] using this
  rw [run_convert_bytes_string w src dst e _ _ _ hs he hd]
  have hc : (loadCells ⟨g, 0, none⟩ n).run P w = .ok ((l.map (fun b => (b.toNat : Int))).map (Value.int .u8)).toArray w := by
    have := run_loadCells_list (P := P) (w := w) ⟨g, 0, none⟩ (Lib.byteCells l) (fun j u hu => hown.cells (g := g) rfl j u hu)
    rw [Lib.byteCells_length, hl] at this
    rw [this]
    simp [Lib.byteCells, List.map_map, Function.comp_def]
  rw [run_bytesToString w ⟨g, 0, none⟩ n c _ hc, foldl_push]
  have he : (ByteArray.empty).data = #[] := rfl
  rw [he]
  simp

/-- string([]byte{..}). -/
theorem run_string_lit {P : Program} {src dst e : TypeId} (l : List UInt8) (cur : Array Value) (hc : cur.toList = Lib.byteCells l) (hm : l.length ≤ maxLen)
    (hs : P.underlying src = some (.slice e)) (he : P.underlying e = some (.int .u8)) (hd : P.underlying dst = some .string) (w : World) :
    (convert src dst (.slice (some ⟨w.heap.size, 0, none⟩) l.length l.length)).run P (w.alloc (.cells cur e)) = .ok (.string ⟨l.toArray⟩) (w.alloc (.cells cur e)) := by
  have hsz : cur.size = l.length := by rw [← Array.length_toList, hc, Lib.byteCells_length]
  refine run_string_own (B := w.heap.size) (l := l) ⟨by simp [Lib.byteCells_length], .inr ⟨w.heap.size, l.length, cur, rfl, Nat.le_refl _, heap_alloc_new w _, Nat.le_refl _, hm, by simp [hsz], ?_⟩⟩ hs he hd
  rw [hc, List.take_of_length_le (by simp [Lib.byteCells_length])]

/-- []byte(t): a new row that holds t's bytes. -/
theorem run_bytes_of {P : Program} (w : World) (src dst e : TypeId) (t : ByteArray) (n : Nat) (l : List UInt8) (hn : t.size = n) (hl : t.data.toList = l) {u : TypeDesc}
    (hs : P.underlying src = some u) (hd : P.underlying dst = some (.slice e)) (he : P.underlying e = some (.int .u8)) :
    ∃ cap w1, (convert src dst (.string t)).run P w = .ok (.slice (some ⟨w.heap.size, 0, none⟩) n cap) w1 ∧ Below w.heap.size w w1 ∧ w1.heap.size = w.heap.size + 1 ∧
      ∀ j (h : j < l.length), w1.cell? ⟨w.heap.size, j, none⟩ = some (.int .u8 l[j].toNat) := by
  subst hl
  subst hn
  refine ⟨_, _, Lib.run_convert_string_bytes w src dst e t hs hd he, ⟨rfl, rfl, rfl, ?_, fun k hk => Lib.bytesWorld_at_old w e t k hk⟩, Lib.bytesWorld_size w e t, fun j h => ?_⟩
  · rw [Lib.bytesWorld_size]; omega
  · rw [Lib.bytesWorld_cell w e t j (by simpa using h)]
    simp [List.getD, List.getElem?_eq_getElem h]

/-- A string in a slot. -/
def strOf : Value → ByteArray
  | .string s => s
  | _ => ByteArray.empty

theorem builder_below {T e : TypeId} {B b : Nat} {bs : List Value} {w w' : World} (h : Lib.IsBuilder T e B b bs w) (hb : Below w.heap.size w w') : Lib.IsBuilder T e B b bs w' := by
  have key : ∀ p, Lib.BuilderAt T e B b p bs w → Lib.BuilderAt T e B b p bs w' := fun p h => by
    obtain ⟨h1, v, h2, h3, h4⟩ := h
    exact ⟨h1, v, by rw [hb.block b (Array.getElem?_eq_some_iff.1 h2).1]; exact h2, own_below h3 hb, h4⟩
  rcases h with h | h
  · exact .inl (key _ h)
  · exact .inr (key _ h)

/-- A builder that has just been made. -/
theorem builder_new (T e : TypeId) (w : World) : Lib.IsBuilder T e w.heap.size w.heap.size [] (w.alloc (.cells #[.pointer none, .slice none 0 0] T)) :=
  .inl ⟨Nat.le_refl _, .slice none 0 0, heap_alloc_new w _, World.ownsRow_nil _ _ _ _, by simp [Value.ownBlock]⟩

/-- The shape of a slice that is the call's own. -/
theorem own_shape {w : World} {B : Nat} {e : TypeId} {size : Nat} {ad : Option Addr} {n c : Nat} {xs : List Value} (h : w.ownsRow B e size (.slice ad n c) n xs) : (ad = none ∧ n = 0 ∧ c = 0) ∨ ∃ g, ad = some ⟨g, 0, none⟩ ∧ B ≤ g ∧ g < w.heap.size := by
  rcases h.2 with ⟨h1, h2⟩ | ⟨g, cap, cur, h1, h2, h3, _⟩
  · injection h1 with h1 _ h3; exact .inl ⟨h1, h2, h3⟩
  · injection h1 with h1; exact .inr ⟨g, h1, h2, (Array.getElem?_eq_some_iff.1 h3).1⟩

/-- A cell of a slice that is the call's own. -/
theorem own_cell {w : World} {B : Nat} {e : TypeId} {size : Nat} {g n c : Nat} {xs : List Value} (h : w.ownsRow B e size (.slice (some ⟨g, 0, none⟩) n c) n xs) (j : Nat) (u : Value) (hu : xs[j]? = some u) : w.cell? ⟨g, j, none⟩ = some u := by
  have := h.cells (g := g) rfl j u hu
  have e : (⟨g, 0, none⟩ : Addr).add j = ⟨g, j, none⟩ := by unfold Addr.add; split <;> simp_all
  rwa [e] at this

theorem str_app (a b : List UInt8) : (⟨a.toArray⟩ : ByteArray) ++ ⟨b.toArray⟩ = ⟨(a ++ b).toArray⟩ := by
  apply ByteArray.ext
  simp
end Go.Proofs.Ythifddkmbjnncaa

/-
  The plain law of documents: no program in sight.
-/
namespace Go.Proofs.Ythifddkmbjnncaa

structure AttrD where
  name : List UInt8
  value : List UInt8
deriving DecidableEq

structure ItemD where
  level : Int
  kind : Int
  name : List UInt8
  text : List UInt8
  attrs : List AttrD
deriving DecidableEq

/-- how many characters; -1: the text is not made of such -/
def countL (l : List UInt8) : Int := match charsL l with
  | some cs => cs.length
  | none => -1
/-- why a text may not be -/
def charsE (l : List UInt8) : Int := if countL l < 0 then 64 else if 1500 < l.length then 67 else 0

def leB (a b : List UInt8) : Bool := Op.bytesLess a b || a == b
def attrNames (last : List UInt8) : List AttrD → Bool
  | [] => true
  | a :: r => nameL a.name && !(leB a.name last) && attrNames a.name r
def namesE (x : ItemD) : Int := if nameL x.name && attrNames [] x.attrs then (if 20 < x.attrs.length then 67 else 0) else 63
def valuesE : List AttrD → Int
  | [] => 0
  | a :: r => if charsE a.value = 0 then valuesE r else charsE a.value
def partsE (x : ItemD) : Int :=
  if x.kind = 2 ∧ x.name = [] ∧ x.attrs = [] then charsE x.text
  else if x.kind ≠ 1 ∨ x.text ≠ [] then 68
  else if namesE x = 0 then valuesE x.attrs else namesE x
def placeE (prev : Option ItemD) (k : Nat) (x : ItemD) : Int := match prev with
  | none => if x.level ≠ 0 ∨ x.kind ≠ 1 then 69 else 0
  | some p => if x.level < 1 ∨ p.level + 1 < x.level ∨ (p.level < x.level ∧ p.kind = 2) then 69 else if 40 ≤ x.level then 42 else if 1000 ≤ k then 43 else 0
def oneE (prev : Option ItemD) (k : Nat) (x : ItemD) : Int := if placeE prev k x = 0 then partsE x else placeE prev k x
def checkF (prev : Option ItemD) (k : Nat) : List ItemD → Int × Int
  | [] => (0, 0)
  | x :: r => if oneE prev k x = 0 then checkF (some x) (k + 1) r else (k, oneE prev k x)
def checkL (l : List ItemD) : Int × Int := if l = [] then (0, 40) else checkF none 0 l
end Go.Proofs.Ythifddkmbjnncaa

/-
  Plain words on documents and their check: no program in sight.
-/
namespace Go.Proofs.Ythifddkmbjnncaa

/-- The item ahead. -/
def prevOf (l : List ItemD) (k : Nat) : Option ItemD := if k = 0 then none else l[k - 1]?

/-- no part of an item is of a size that is out of the model's reach -/
def SmallItem (x : ItemD) : Prop := x.name.length ≤ 1000000000 ∧ x.text.length ≤ 1000000000 ∧ x.attrs.length ≤ 1000000000 ∧ (∀ (k : Nat) (a : AttrD), x.attrs[k]? = some a → a.name.length ≤ 1000000000 ∧ a.value.length ≤ 1000000000) ∧ (-9223372036854775808 ≤ x.level ∧ x.level ≤ 9223372036854775807)

theorem drop_cons {α : Type} {l : List α} {k : Nat} {a : α} (h : l[k]? = some a) : l.drop k = a :: l.drop (k + 1) := by
  have hl : k < l.length := (List.getElem?_eq_some_iff.1 h).1
  rw [List.drop_eq_getElem_cons hl]
  rw [List.getElem?_eq_getElem hl] at h
  injection h with h; rw [h]

theorem placeE_zero {prev : Option ItemD} {k : Nat} {x : ItemD} (h : placeE prev k x = 0) : 0 ≤ x.level ∧ x.level < 40 := by
  unfold placeE at h
  cases prev with
  | none =>
    simp only at h
    split at h
    · omega
    · omega
  | some p =>
    simp only at h
    split at h
    · omega
    split at h
    · omega
    · omega
theorem oneE_zero {prev : Option ItemD} {k : Nat} {x : ItemD} (h : oneE prev k x = 0) : placeE prev k x = 0 ∧ partsE x = 0 := by
  unfold oneE at h
  by_cases hp : placeE prev k x = 0
  · rw [if_pos hp] at h; exact ⟨hp, h⟩
  · rw [if_neg hp] at h; exact absurd h hp
theorem prevOf_succ {l : List ItemD} {k : Nat} {x : ItemD} (hx : l[k]? = some x) : prevOf l (k + 1) = some x := by
  unfold prevOf; rw [if_neg (by omega)]; exact hx
theorem checkF_drop {l : List ItemD} {k : Nat} {x : ItemD} (hx : l[k]? = some x) : checkF (prevOf l k) k (l.drop k) = if oneE (prevOf l k) k x = 0 then checkF (prevOf l (k + 1)) (k + 1) (l.drop (k + 1)) else ((k : Int), oneE (prevOf l k) k x) := by
  rw [drop_cons hx, prevOf_succ hx]; rfl

/-- All items are small enough. -/
def SmallItems (l : List ItemD) : Prop := l.length ≤ 1000000000 ∧ ∀ (k : Nat) (x : ItemD), l[k]? = some x → SmallItem x

end Go.Proofs.Ythifddkmbjnncaa

/-
  The plain law of documents made normal: no program in sight.
-/
namespace Go.Proofs.Ythifddkmbjnncaa

def nstep (out : List ItemD) (x : ItemD) : List ItemD :=
  if x.kind = 2 ∧ x.text = [] then out
  else match out[out.length - 1]? with
    | none => out ++ [x]
    | some p => if x.kind = 2 ∧ p.kind = 2 ∧ p.level = x.level then out.set (out.length - 1) { p with text := p.text ++ x.text } else out ++ [x]
def normalL (l : List ItemD) : List ItemD := l.foldl nstep []

theorem nstep_void {out : List ItemD} {x : ItemD} (h1 : x.kind = 2) (h2 : x.text = []) : nstep out x = out := by unfold nstep; rw [if_pos ⟨h1, h2⟩]
theorem nstep_first {x : ItemD} (h : ¬ (x.kind = 2 ∧ x.text = [])) : nstep [] x = [x] := by unfold nstep; rw [if_neg h]; rfl
theorem nstep_join {out : List ItemD} {x p : ItemD} (hp : out[out.length - 1]? = some p) (h1 : x.kind = 2) (h2 : x.text ≠ []) (h3 : p.kind = 2) (h4 : p.level = x.level) : nstep out x = out.set (out.length - 1) { p with text := p.text ++ x.text } := by
  unfold nstep; rw [if_neg (fun h => h2 h.2), hp]; exact if_pos ⟨h1, h3, h4⟩
theorem nstep_more {out : List ItemD} {x p : ItemD} (hp : out[out.length - 1]? = some p) (h : ¬ (x.kind = 2 ∧ x.text = [])) (h' : ¬ (x.kind = 2 ∧ p.kind = 2 ∧ p.level = x.level)) : nstep out x = out ++ [x] := by
  unfold nstep; rw [if_neg h, hp]; exact if_neg h'

theorem nstep_app {out : List ItemD} {x : ItemD} (h : ¬ (x.kind = 2 ∧ x.text = [])) (h' : ∀ p, out[out.length - 1]? = some p → ¬ (x.kind = 2 ∧ p.kind = 2 ∧ p.level = x.level)) : nstep out x = out ++ [x] := by
  unfold nstep; rw [if_neg h]
  split
  · rfl
  · rename_i p hp
    exact if_neg (h' p hp)

/-- the bytes of all texts together -/
def textSum (l : List ItemD) : Nat := (l.map (·.text.length)).sum
theorem textSum_snoc (l : List ItemD) (x : ItemD) : textSum (l ++ [x]) = textSum l + x.text.length := by simp [textSum]
theorem textSum_take {l : List ItemD} {k : Nat} {x : ItemD} (hx : l[k]? = some x) : textSum (l.take (k + 1)) = textSum (l.take k) + x.text.length := by
  have hk : k < l.length := (List.getElem?_eq_some_iff.1 hx).1
  rw [List.take_add_one, hx]
  simp [textSum]
theorem textSum_append (l m : List ItemD) : textSum (l ++ m) = textSum l + textSum m := by simp [textSum]
theorem textSum_take_le (l : List ItemD) (k : Nat) : textSum (l.take k) ≤ textSum l := by
  have := textSum_append (l.take k) (l.drop k)
  rw [List.take_append_drop] at this
  omega

def SmallDoc (l : List ItemD) : Prop := SmallItems l ∧ textSum l ≤ 1000000000

/-- what is made normal: its items are of the row's, but for their texts -/
theorem normal_step_mem (P : ItemD → Prop) {out : List ItemD} {x : ItemD} {T : Nat} (ho : ∀ y ∈ out, P { y with text := [] } ∧ y.text.length ≤ T) (hx : P { x with text := [] }) : ∀ y ∈ nstep out x, P { y with text := [] } ∧ y.text.length ≤ T + x.text.length := by
  intro y hy
  unfold nstep at hy
  split at hy
  · have := ho y hy; exact ⟨this.1, by omega⟩
  · split at hy
    · rcases List.mem_append.1 hy with h | h
      · have := ho y h; exact ⟨this.1, by omega⟩
      · simp at h; subst h; exact ⟨hx, by omega⟩
    · rename_i p hp
      split at hy
      · rcases List.mem_or_eq_of_mem_set hy with h | h
        · have := ho y h; exact ⟨this.1, by omega⟩
        · subst h
          have := ho p (List.mem_of_getElem? hp)
          exact ⟨this.1, by simp; omega⟩
      · rcases List.mem_append.1 hy with h | h
        · have := ho y h; exact ⟨this.1, by omega⟩
        · simp at h; subst h; exact ⟨hx, by omega⟩
theorem nstep_length (out : List ItemD) (x : ItemD) : (nstep out x).length ≤ out.length + 1 := by
  unfold nstep
  split
  · omega
  · split
    · simp
    · split <;> simp
theorem normal_fold_mem (P : ItemD → Prop) : ∀ (l out : List ItemD) (T : Nat), (∀ y ∈ out, P { y with text := [] } ∧ y.text.length ≤ T) → (∀ x ∈ l, P { x with text := [] }) → (∀ y ∈ l.foldl nstep out, P { y with text := [] } ∧ y.text.length ≤ T + textSum l) ∧ (l.foldl nstep out).length ≤ out.length + l.length
  | [], out, T, ho, _ => ⟨fun y hy => by have := ho y hy; exact ⟨this.1, by omega⟩, by simp⟩
  | x :: l, out, T, ho, hl => by
    have h1 := normal_step_mem P ho (hl x (by simp))
    have h2 := normal_fold_mem P l (nstep out x) (T + x.text.length) h1 (fun y hy => hl y (by simp [hy]))
    have h3 := nstep_length out x
    refine ⟨fun y hy => ?_, ?_⟩
    · have := h2.1 y hy
      exact ⟨this.1, by simp [textSum] at *; omega⟩
    · have := h2.2
      simp only [List.foldl_cons, List.length_cons]
      omega

theorem SmallItem.untexted {x : ItemD} (h : SmallItem { x with text := [] }) (ht : x.text.length ≤ 1000000000) : SmallItem x := ⟨h.1, ht, h.2.2.1, h.2.2.2.1, h.2.2.2.2⟩
theorem small_of_mem {l : List ItemD} (h : l.length ≤ 1000000000) (hm : ∀ x ∈ l, SmallItem x) : SmallItems l := ⟨h, fun _ _ hx => hm _ (List.mem_of_getElem? hx)⟩
theorem SmallItems.mem {l : List ItemD} (h : SmallItems l) : ∀ x ∈ l, SmallItem x := fun x hx => by
  obtain ⟨k, hk⟩ := List.mem_iff_getElem?.1 hx
  exact h.2 k x hk
theorem normal_small {l : List ItemD} (h : SmallDoc l) : SmallItems (normalL l) := by
  have := normal_fold_mem SmallItem l [] 0 (fun _ h => by cases h) (fun x hx => by
    have := h.1.mem x hx
    exact ⟨this.1, by simp, this.2.2.1, this.2.2.2.1, this.2.2.2.2⟩)
  refine small_of_mem (by have h2 := this.2; have := h.1.1; simp at h2; exact Nat.le_trans h2 this) fun x hx => ?_
  have h3 := this.1 x hx
  exact h3.1.untexted (by have := h.2; omega)
end Go.Proofs.Ythifddkmbjnncaa

/-
  The plain law of documents as texts: no program in sight.
-/
namespace Go.Proofs.Ythifddkmbjnncaa

def escT (t : List UInt8) : List UInt8 := (escL false t).getD []
def escV (t : List UInt8) : List UInt8 := (escL true t).getD []
def attrT (a : AttrD) : List UInt8 := [32] ++ a.name ++ [61, 34] ++ escV a.value ++ [34]
def tagL (x : ItemD) : List UInt8 := [60] ++ x.name ++ x.attrs.flatMap attrT
def kidsOf (c : Int) (r : List ItemD) : List ItemD := r.takeWhile fun y => decide (c < y.level)
def pastOf (c : Int) (r : List ItemD) : List ItemD := r.dropWhile fun y => decide (c < y.level)
theorem kids_past (c : Int) (r : List ItemD) : kidsOf c r ++ pastOf c r = r := List.takeWhile_append_dropWhile
theorem kidsOf_le (c : Int) (r : List ItemD) : (kidsOf c r).length ≤ r.length := by
  have := congrArg List.length (kids_past c r)
  rw [List.length_append] at this; omega
theorem pastOf_le (c : Int) (r : List ItemD) : (pastOf c r).length ≤ r.length := by
  have := congrArg List.length (kids_past c r)
  rw [List.length_append] at this; omega
theorem past_drop (c : Int) (r : List ItemD) : pastOf c r = r.drop (kidsOf c r).length := by
  have h := kids_past c r
  have : (kidsOf c r ++ pastOf c r).drop (kidsOf c r).length = pastOf c r := List.drop_left
  rw [h] at this; exact this.symm
theorem kids_take (c : Int) (r : List ItemD) : kidsOf c r = r.take (kidsOf c r).length := by
  have h := kids_past c r
  have : (kidsOf c r ++ pastOf c r).take (kidsOf c r).length = kidsOf c r := List.take_left
  rw [h] at this; exact this.symm
theorem kids_mem (c : Int) : ∀ (r : List ItemD), ∀ y ∈ kidsOf c r, c < y.level
  | [], y, h => by cases h
  | x :: r, y, h => by
    unfold kidsOf at h
    rw [List.takeWhile_cons] at h
    split at h
    · rename_i hx
      rcases List.mem_cons.1 h with rfl | h
      · exact of_decide_eq_true hx
      · exact kids_mem c r y h
    · cases h
theorem past_head (c : Int) : ∀ (r : List ItemD) (y : ItemD) (s : List ItemD), pastOf c r = y :: s → y.level ≤ c
  | [], y, s, h => by cases h
  | x :: r, y, s, h => by
    unfold pastOf at h
    rw [List.dropWhile_cons] at h
    split at h
    · exact past_head c r y s h
    · rename_i hx
      injection h with h1 _
      subst h1
      have := of_decide_eq_false (by simpa using hx : decide (c < x.level) = false)
      omega
/-- what stands in front of what is no kid -/
theorem kids_app (c : Int) : ∀ (s rest : List ItemD), (∀ y r, rest = y :: r → y.level ≤ c) → kidsOf c (s ++ rest) = kidsOf c s
  | [], rest, h => by
    cases rest with
    | nil => rfl
    | cons y r =>
      have := h y r rfl
      show List.takeWhile _ (y :: r) = _
      rw [List.takeWhile_cons, if_neg (by simp; omega)]; rfl
  | x :: s, rest, h => by
    show List.takeWhile _ (x :: (s ++ rest)) = List.takeWhile _ (x :: s)
    rw [List.takeWhile_cons, List.takeWhile_cons]
    have := kids_app c s rest h
    unfold kidsOf at this
    rw [this]

/-- an item with what is in it -/
def nodeL (x : ItemD) (kids : List ItemD) (inner : List UInt8) : List UInt8 :=
  if x.kind = 2 then escT x.text else if kids = [] then tagL x ++ [47, 62] else tagL x ++ [62] ++ inner ++ ([60, 47] ++ x.name ++ [62])
/-- items side by side -/
def pr : List ItemD → List UInt8
  | [] => []
  | x :: r => nodeL x (kidsOf x.level r) (pr (kidsOf x.level r)) ++ pr (pastOf x.level r)
termination_by l => l.length
decreasing_by
  · have := kidsOf_le x.level r; simp; omega
  · have := pastOf_le x.level r; simp; omega
theorem pr_nil : pr [] = [] := by rw [pr]
theorem pr_cons (x : ItemD) (r : List ItemD) : pr (x :: r) = nodeL x (kidsOf x.level r) (pr (kidsOf x.level r)) ++ pr (pastOf x.level r) := by rw [pr]
/-- an item of a row, with what is in it -/
def nodeAt (l : List ItemD) (k : Nat) : List UInt8 := match l.drop k with
  | [] => []
  | x :: r => nodeL x (kidsOf x.level r) (pr (kidsOf x.level r))
/-- the number behind an item of a row -/
def endN (l : List ItemD) (k : Nat) : Nat := match l.drop k with
  | [] => 0
  | x :: r => k + 1 + (kidsOf x.level r).length

theorem endN_eq {l : List ItemD} {k : Nat} {x : ItemD} (hx : l[k]? = some x) : endN l k = k + 1 + (kidsOf x.level (l.drop (k + 1))).length := by
  unfold endN; rw [drop_cons hx]
theorem nodeAt_eq {l : List ItemD} {k : Nat} {x : ItemD} (hx : l[k]? = some x) : nodeAt l k = nodeL x (kidsOf x.level (l.drop (k + 1))) (pr (kidsOf x.level (l.drop (k + 1)))) := by
  unfold nodeAt; rw [drop_cons hx]
/-- what is in an item: its numbers are those from the next one on, up to its end -/
theorem kids_seg {l : List ItemD} {k : Nat} {x : ItemD} (hx : l[k]? = some x) : kidsOf x.level (l.drop (k + 1)) = (l.drop (k + 1)).take (endN l k - (k + 1)) := by
  have h := kids_take x.level (l.drop (k + 1))
  rw [endN_eq hx, show k + 1 + (kidsOf x.level (l.drop (k + 1))).length - (k + 1) = (kidsOf x.level (l.drop (k + 1))).length by omega]
  exact h
theorem endN_le {l : List ItemD} {k : Nat} {x : ItemD} (hx : l[k]? = some x) : k < endN l k ∧ endN l k ≤ l.length := by
  have h := kidsOf_le x.level (l.drop (k + 1))
  have hk : k < l.length := (List.getElem?_eq_some_iff.1 hx).1
  rw [endN_eq hx]
  rw [List.length_drop] at h
  omega
theorem seg_step {l : List ItemD} {k n : Nat} {x y : ItemD} (hx : l[k]? = some x) (hkn : k < n) (hn : n < endN l k) (hy : l[n]? = some y) :
    n < endN l n ∧ endN l n ≤ endN l k ∧ pr ((l.drop n).take (endN l k - n)) = nodeAt l n ++ pr ((l.drop (endN l n)).take (endN l k - endN l n)) := by
  obtain ⟨E, hE⟩ : ∃ E, endN l k = E := ⟨_, rfl⟩
  have hEl := (endN_le hx).2
  have hseg := kids_seg hx
  rw [hE] at hn hEl hseg ⊢
  -- what stands between, and behind
  have hyl : x.level < y.level := by
    refine kids_mem x.level (l.drop (k + 1)) y ?_
    rw [hseg]
    refine List.mem_of_getElem? (i := n - (k + 1)) ?_
    rw [List.getElem?_take, if_pos (by omega), List.getElem?_drop, show k + 1 + (n - (k + 1)) = n by omega]
    exact hy
  have hsplit : l.drop (n + 1) = (l.drop (n + 1)).take (E - (n + 1)) ++ l.drop E := by
    have := (List.take_append_drop (E - (n + 1)) (l.drop (n + 1))).symm
    rw [List.drop_drop, show n + 1 + (E - (n + 1)) = E by omega] at this
    exact this
  have hpast : pastOf x.level (l.drop (k + 1)) = l.drop E := by
    rw [past_drop, List.drop_drop]
    congr 1
    rw [← hE, endN_eq hx]
  have hrest : ∀ z r, l.drop E = z :: r → z.level ≤ y.level := fun z r h => by
    have := past_head x.level (l.drop (k + 1)) z r (by rw [hpast]; exact h)
    omega
  obtain ⟨s, hs⟩ : ∃ s, (l.drop (n + 1)).take (E - (n + 1)) = s := ⟨_, rfl⟩
  rw [hs] at hsplit
  have hkids : kidsOf y.level (l.drop (n + 1)) = kidsOf y.level s := by rw [hsplit]; exact kids_app _ _ _ hrest
  have hsl : s.length = E - (n + 1) := by rw [← hs, List.length_take, List.length_drop]; omega
  have hkl := kidsOf_le y.level s
  have hend : endN l n = n + 1 + (kidsOf y.level s).length := by rw [endN_eq hy, hkids]
  refine ⟨by omega, by omega, ?_⟩
  have hseg' : (l.drop n).take (E - n) = y :: s := by
    rw [drop_cons hy, show E - n = (E - (n + 1)) + 1 by omega, List.take_succ_cons, hs]
  rw [hseg', pr_cons, nodeAt_eq hy, hkids, past_drop, hend]
  congr 2
  rw [← hs, List.drop_take, List.drop_drop]
  congr 1
  omega

def printL (l : List ItemD) : List UInt8 × Int := if (checkL l).2 = 0 then (nodeAt (normalL l) 0, 0) else ([], (checkL l).2)
end Go.Proofs.Ythifddkmbjnncaa

/-
  Documents in memory: rows of items, rows of attributes.
-/
namespace Go.Proofs.Ythifddkmbjnncaa
open Go.RowKit

def strV (l : List UInt8) : Value := .string ⟨l.toArray⟩

/-- A row of attributes at an address: two cells each. -/
def AttrsAt (w : World) (B : Nat) (A : Option Addr) (l : List AttrD) : Prop :=
  0 < l.length → ∃ ad, A = some ad ∧ ad.block < B ∧ ∀ k a, l[k]? = some a → w.cell? (ad.add (k * 2)) = some (strV a.name) ∧ w.cell? ⟨(ad.add (k * 2)).block, (ad.add (k * 2)).off + 1, none⟩ = some (strV a.value)

/-- An item's five cells. -/
def itemVal (x : ItemD) (A : Option Addr) (c : Nat) : Array Value := #[.int .i64 x.level, .int .i64 x.kind, strV x.name, strV x.text, .slice A x.attrs.length c]

/-- A row of items at an address: five cells each. -/
def ItemsAt (w : World) (B : Nat) (A : Option Addr) (l : List ItemD) : Prop :=
  0 < l.length → ∃ ad, A = some ad ∧ ad.block < B ∧ ∀ k x, l[k]? = some x → ∃ A' c, AttrsAt w B A' x.attrs ∧ x.attrs.length ≤ c ∧
    w.cell? (ad.add (k * 5)) = some (.int .i64 x.level) ∧ w.cell? ⟨(ad.add (k * 5)).block, (ad.add (k * 5)).off + 1, none⟩ = some (.int .i64 x.kind) ∧ w.cell? ⟨(ad.add (k * 5)).block, (ad.add (k * 5)).off + 2, none⟩ = some (strV x.name) ∧
    w.cell? ⟨(ad.add (k * 5)).block, (ad.add (k * 5)).off + 3, none⟩ = some (strV x.text) ∧ w.cell? ⟨(ad.add (k * 5)).block, (ad.add (k * 5)).off + 4, none⟩ = some (.slice A' x.attrs.length c)

theorem block_of_add (a : Addr) (n : Nat) : (a.add n).block = a.block := by unfold Addr.add; split <;> rfl
theorem add_of_add (a : Addr) (i j : Nat) : (a.add i).add j = a.add (i + j) := by
  unfold Addr.add
  by_cases hi : i = 0 <;> by_cases hj : j = 0 <;> simp [hi, hj, Nat.add_assoc]

section
variable {w w' : World} {B B' : Nat} {A : Option Addr}
theorem AttrsAt.keep {l : List AttrD} (h : AttrsAt w B A l) (hk : ∀ p : Addr, p.block < B → w'.cell? p = w.cell? p) : AttrsAt w' B A l := fun hn => by
  obtain ⟨ad, e, hb, hc⟩ := h hn
  exact ⟨ad, e, hb, fun k a ha => ⟨(hk _ (by rw [block_of_add]; exact hb)).trans (hc k a ha).1, (hk _ (by show (ad.add _).block < B; rw [block_of_add]; exact hb)).trans (hc k a ha).2⟩⟩
theorem AttrsAt.more {l : List AttrD} (h : AttrsAt w B A l) (hB : B ≤ B') : AttrsAt w B' A l := fun hn => by
  obtain ⟨ad, e, hb, hc⟩ := h hn
  exact ⟨ad, e, by omega, hc⟩
theorem AttrsAt.below {l : List AttrD} (h : AttrsAt w B A l) (hb : Below B w w') : AttrsAt w' B A l := h.keep fun _ hp => hb.cell hp
theorem ItemsAt.keep {l : List ItemD} (h : ItemsAt w B A l) (hk : ∀ p : Addr, p.block < B → w'.cell? p = w.cell? p) : ItemsAt w' B A l := fun hn => by
  obtain ⟨ad, e, hb, hc⟩ := h hn
  refine ⟨ad, e, hb, fun k x hx => ?_⟩
  obtain ⟨A', c, ha, hac, h0, h1, h2, h3, h4⟩ := hc k x hx
  have hk' : ∀ n, w'.cell? ⟨(ad.add (k * 5)).block, (ad.add (k * 5)).off + n, none⟩ = w.cell? ⟨(ad.add (k * 5)).block, (ad.add (k * 5)).off + n, none⟩ := fun n => hk _ (by show (ad.add _).block < B; rw [block_of_add]; exact hb)
  exact ⟨A', c, ha.keep hk, hac, (hk _ (by rw [block_of_add]; exact hb)).trans h0, (hk' _).trans h1, (hk' _).trans h2, (hk' _).trans h3, (hk' _).trans h4⟩
theorem ItemsAt.more {l : List ItemD} (h : ItemsAt w B A l) (hB : B ≤ B') : ItemsAt w B' A l := fun hn => by
  obtain ⟨ad, e, hb, hc⟩ := h hn
  refine ⟨ad, e, by omega, fun k x hx => ?_⟩
  obtain ⟨A', c, ha, hr⟩ := hc k x hx
  exact ⟨A', c, ha.more hB, hr⟩
theorem ItemsAt.below {l : List ItemD} (h : ItemsAt w B A l) (hb : Below B w w') : ItemsAt w' B A l := h.keep fun _ hp => hb.cell hp
end
end Go.Proofs.Ythifddkmbjnncaa

/-
  The walks of glyph.Char, glyph.laid and glyph.Put, and of the document's Char and Put.
-/
namespace Go.Proofs.Ythifddkmbjnncaa
open Go.RowKit

theorem infoByte : (Try.prog.info? 5).map (fun i => (i.zero, i.size, i.bytes)) = some (some (.int .u8 0), 1, 1) := by kernel_rfl

theorem or_u8 : ∀ (m : Fin 4) (x : Fin 64), m.val * 64 + x.val < 256 → bits .or .u8 ((m.val : Int) * 64) (x.val : Int) = (m.val : Int) * 64 + x.val := by decide +kernel
theorem or192 (x : Int) (h0 : 0 ≤ x) (h1 : x < 64) : bits .or .u8 192 x = 192 + x := by
  have := or_u8 ⟨3, by omega⟩ ⟨x.toNat, by omega⟩ (by simp; omega)
  simpa [Int.toNat_of_nonneg h0] using this
theorem or0 : ∀ (x : Fin 256), bits .or .u8 0 (x.val : Int) = x.val := by decide +kernel
theorem or224a : ∀ (x : Fin 16), bits .or .u8 224 (x.val : Int) = 224 + x.val := by decide +kernel
theorem or240a : ∀ (x : Fin 8), bits .or .u8 240 (x.val : Int) = 240 + x.val := by decide +kernel
theorem or0' (x : Int) (h0 : 0 ≤ x) (h1 : x < 256) : bits .or .u8 0 x = x := by
  have := or0 ⟨x.toNat, by omega⟩
  simpa [Int.toNat_of_nonneg h0] using this
theorem or224 (x : Int) (h0 : 0 ≤ x) (h1 : x < 16) : bits .or .u8 224 x = 224 + x := by
  have := or224a ⟨x.toNat, by omega⟩
  simpa [Int.toNat_of_nonneg h0] using this
theorem or240 (x : Int) (h0 : 0 ≤ x) (h1 : x < 8) : bits .or .u8 240 x = 240 + x := by
  have := or240a ⟨x.toNat, by omega⟩
  simpa [Int.toNat_of_nonneg h0] using this

set_option maxHeartbeats 400000 in
theorem Char_any (c : Int) (w : World) :
    Calls Try.prog 130 #[.int .i32 c] w fun e w' => e = .returned (.bool (charB c)) ∧ w = w' := by
  go_enter Try.func130, Try.ntmps130
  go_wp2
  all_goals go_ret
  all_goals (refine ⟨congrArg (fun b => Ending.returned (.bool b)) ?_, rfl⟩; rw [Bool.eq_iff_iff]; simp [charB]; try omega)

set_option maxHeartbeats 400000 in
theorem laid1 (c : Int) (w : World) (h0 : 0 ≤ c) (h1 : c < 128) :
    Calls Try.prog 131 #[.int .i32 c, .int .u8 0, .int .i64 1] w (Ret w (.string ⟨(enc c).toArray⟩)) := by
  have e0 : bits .or .u8 0 c = c := or0' _ (by omega) (by omega)
  go_enter Try.func131, Try.ntmps131
  go_wp2
  refine wp_loop_rounds 1 ?_
  have hc : [Value.int .u8 (c)] = Lib.byteCells (enc c) := by
    unfold enc; rw [if_pos (by omega)]; simp [Lib.byteCells]
    simp only [bt_toNat (c) (by omega) (by omega)]
  have hown : (w.alloc (.cells #[.int .u8 c] 5)).ownsRow w.heap.size 5 1 (.slice (some ⟨w.heap.size, 0, none⟩) 1 1) 1 (Lib.byteCells (enc c)) := by
    rw [← hc]; exact own_lit w 5 (.int .u8 c) w.heap.size (Nat.le_refl _)
  clear hc
  have hcv := run_string_own (P := Try.prog) hown Try.underlying78 Try.underlying5 Try.underlying9
  rw [rounds_succ]
  go_wp2
  go_ret
  exact ⟨rfl, (Below.refl _ _).alloc (Nat.le_refl _) _⟩

set_option maxHeartbeats 400000 in
theorem laid2 (c : Int) (w : World) (h0 : 128 ≤ c) (h1 : c < 2048) :
    Calls Try.prog 131 #[.int .i32 c, .int .u8 192, .int .i64 2] w (Ret w (.string ⟨(enc c).toArray⟩)) := by
  have e0 : bits .or .u8 192 (c / 64 % 256) = 192 + c / 64 := by rw [or192 _ (by omega) (by omega)]; omega
  have e1 : bits .or .u8 192 (c / 64) = 192 + c / 64 := by rw [or192 _ (by omega) (by omega)]
  go_enter Try.func131, Try.ntmps131
  go_wp2
  refine wp_loop_rounds 2 ?_
  rw [rounds_succ]
  go_wp2_with (at_builtin; refine append1 rfl (.tmp 24) (.tmp 32) 78 rfl w.heap.size 5 (.int .u8 0) 1 Try.underlying78 infoByte rfl _ 1 [.int .u8 (192 + c / 64)] _ rfl (own_lit _ _ _ _ (Nat.le_refl _)) (by simp) _ rfl (by simp) rfl (by omega) (by omega) ?_)
  intro g1 cp1 w1 hown1 hb1 hz1
  try simp only [List.cons_append, List.nil_append] at hown1
  have hc : [Value.int .u8 (192 + c / 64), Value.int .u8 (128 + c % 64)] = Lib.byteCells (enc c) := by
    unfold enc; rw [if_neg (by omega), if_pos (by omega)]; simp [Lib.byteCells]
    simp only [bt_toNat (192 + c / 64) (by omega) (by omega), bt_toNat (128 + c % 64) (by omega) (by omega)]; simp
  rw [hc] at hown1
  clear hc
  have hcv := run_string_own (P := Try.prog) hown1 Try.underlying78 Try.underlying5 Try.underlying9
  go_wp2
  rw [rounds_succ]
  go_wp2
  go_ret
  exact ⟨rfl, ((Below.refl _ w).alloc (Nat.le_refl _) _).trans hb1⟩

set_option maxHeartbeats 400000 in
theorem laid3 (c : Int) (w : World) (h0 : 2048 ≤ c) (h1 : c < 65536) :
    Calls Try.prog 131 #[.int .i32 c, .int .u8 224, .int .i64 3] w (Ret w (.string ⟨(enc c).toArray⟩)) := by
  have e0 : bits .or .u8 224 (c / 4096 % 256) = 224 + c / 4096 := by rw [or224 _ (by omega) (by omega)]; omega
  have e1 : bits .or .u8 224 (c / 4096) = 224 + c / 4096 := by rw [or224 _ (by omega) (by omega)]
  go_enter Try.func131, Try.ntmps131
  go_wp2
  refine wp_loop_rounds 3 ?_
  rw [rounds_succ]
  go_wp2_with (at_builtin; refine append1 rfl (.tmp 24) (.tmp 32) 78 rfl w.heap.size 5 (.int .u8 0) 1 Try.underlying78 infoByte rfl _ 1 [.int .u8 (224 + c / 4096)] _ rfl (own_lit _ _ _ _ (Nat.le_refl _)) (by simp) _ rfl (by simp) rfl (by omega) (by omega) ?_)
  intro g1 cp1 w1 hown1 hb1 hz1
  try simp only [List.cons_append, List.nil_append] at hown1
  have hs1 : w.heap.size < w1.heap.size := by omega
  go_wp2
  rw [rounds_succ]
  go_wp2_with (at_builtin; refine append1 rfl (.tmp 24) (.tmp 32) 78 rfl w.heap.size 5 (.int .u8 0) 1 Try.underlying78 infoByte rfl _ 2 [.int .u8 (224 + c / 4096), .int .u8 (128 + c / 64 % 64)] _ rfl hown1 (by omega) _ rfl (by simp) rfl (by omega) (by omega) ?_)
  intro g2 cp2 w2 hown2 hb2 hz2
  try simp only [List.cons_append, List.nil_append] at hown2
  have hc : [Value.int .u8 (224 + c / 4096), Value.int .u8 (128 + c / 64 % 64), Value.int .u8 (128 + c % 64)] = Lib.byteCells (enc c) := by
    unfold enc; rw [if_neg (by omega), if_neg (by omega), if_pos (by omega)]; simp [Lib.byteCells]
    simp only [bt_toNat (224 + c / 4096) (by omega) (by omega), bt_toNat (128 + c / 64 % 64) (by omega) (by omega), bt_toNat (128 + c % 64) (by omega) (by omega)]; simp
  rw [hc] at hown2
  clear hc
  have hcv := run_string_own (P := Try.prog) hown2 Try.underlying78 Try.underlying5 Try.underlying9
  go_wp2
  rw [rounds_succ]
  go_wp2
  go_ret
  exact ⟨rfl, (((Below.refl _ w).alloc (Nat.le_refl _) _).trans hb1).trans hb2⟩

set_option maxHeartbeats 400000 in
theorem laid4 (c : Int) (w : World) (h0 : 65536 ≤ c) (h1 : c ≤ 1114111) :
    Calls Try.prog 131 #[.int .i32 c, .int .u8 240, .int .i64 4] w (Ret w (.string ⟨(enc c).toArray⟩)) := by
  have e0 : bits .or .u8 240 (c / 262144 % 256) = 240 + c / 262144 := by rw [or240 _ (by omega) (by omega)]; omega
  have e1 : bits .or .u8 240 (c / 262144) = 240 + c / 262144 := by rw [or240 _ (by omega) (by omega)]
  go_enter Try.func131, Try.ntmps131
  go_wp2
  refine wp_loop_rounds 4 ?_
  rw [rounds_succ]
  go_wp2_with (at_builtin; refine append1 rfl (.tmp 24) (.tmp 32) 78 rfl w.heap.size 5 (.int .u8 0) 1 Try.underlying78 infoByte rfl _ 1 [.int .u8 (240 + c / 262144)] _ rfl (own_lit _ _ _ _ (Nat.le_refl _)) (by simp) _ rfl (by simp) rfl (by omega) (by omega) ?_)
  intro g1 cp1 w1 hown1 hb1 hz1
  try simp only [List.cons_append, List.nil_append] at hown1
  have hs1 : w.heap.size < w1.heap.size := by omega
  go_wp2
  rw [rounds_succ]
  go_wp2_with (at_builtin; refine append1 rfl (.tmp 24) (.tmp 32) 78 rfl w.heap.size 5 (.int .u8 0) 1 Try.underlying78 infoByte rfl _ 2 [.int .u8 (240 + c / 262144), .int .u8 (128 + c / 4096 % 64)] _ rfl hown1 (by omega) _ rfl (by simp) rfl (by omega) (by omega) ?_)
  intro g2 cp2 w2 hown2 hb2 hz2
  try simp only [List.cons_append, List.nil_append] at hown2
  have hs2 : w.heap.size < w2.heap.size := by omega
  go_wp2
  rw [rounds_succ]
  go_wp2_with (at_builtin; refine append1 rfl (.tmp 24) (.tmp 32) 78 rfl w.heap.size 5 (.int .u8 0) 1 Try.underlying78 infoByte rfl _ 3 [.int .u8 (240 + c / 262144), .int .u8 (128 + c / 4096 % 64), .int .u8 (128 + c / 64 % 64)] _ rfl hown2 (by omega) _ rfl (by simp) rfl (by omega) (by omega) ?_)
  intro g3 cp3 w3 hown3 hb3 hz3
  try simp only [List.cons_append, List.nil_append] at hown3
  have hc : [Value.int .u8 (240 + c / 262144), Value.int .u8 (128 + c / 4096 % 64), Value.int .u8 (128 + c / 64 % 64), Value.int .u8 (128 + c % 64)] = Lib.byteCells (enc c) := by
    unfold enc; rw [if_neg (by omega), if_neg (by omega), if_neg (by omega)]; simp [Lib.byteCells]
    simp only [bt_toNat (240 + c / 262144) (by omega) (by omega), bt_toNat (128 + c / 4096 % 64) (by omega) (by omega), bt_toNat (128 + c / 64 % 64) (by omega) (by omega), bt_toNat (128 + c % 64) (by omega) (by omega)]; simp
  rw [hc] at hown3
  clear hc
  have hcv := run_string_own (P := Try.prog) hown3 Try.underlying78 Try.underlying5 Try.underlying9
  go_wp2
  rw [rounds_succ]
  go_wp2
  go_ret
  exact ⟨rfl, ((((Below.refl _ w).alloc (Nat.le_refl _) _).trans hb1).trans hb2).trans hb3⟩

set_option maxHeartbeats 400000 in
theorem Put_any (c : Int) (w : World) :
    Calls Try.prog 103 #[.int .i32 c] w (Ret w (.tuple #[.string ⟨(putF c).toArray⟩, .bool (charB c)])) := by
  by_cases hc : charB c = true
  · have hp : putF c = enc c := by unfold putF; rw [if_pos hc]
    have hr : 0 ≤ c ∧ c ≤ 1114111 := by simp [charB] at hc; omega
    obtain ⟨hr0, hr1⟩ := hr
    have HP := Lib.hid hp
    clear hp
    go_enter Try.func103, Try.ntmps103
    go_wp2_with (first
      | (go_at_call 130; refine (Char_any _ _).mono ?_; rintro e w' ⟨rfl, rfl⟩)
      | (go_at_call 131; first
          | ((with_reducible refine (laid1 _ _ (by omega) (by omega)).mono ?_); rintro e w' ⟨rfl, hb⟩)
          | ((with_reducible refine (laid2 _ _ (by omega) (by omega)).mono ?_); rintro e w' ⟨rfl, hb⟩)
          | ((with_reducible refine (laid3 _ _ (by omega) (by omega)).mono ?_); rintro e w' ⟨rfl, hb⟩)
          | ((with_reducible refine (laid4 _ _ (by omega) (by omega)).mono ?_); rintro e w' ⟨rfl, hb⟩)))
    all_goals go_ret2
    all_goals exact ⟨by rw [HP.out, hc]; rfl, hb⟩
  · have hc' : charB c = false := by simpa using hc
    clear hc
    have HP : Hid (putF c = []) := by unfold putF; rw [hc']; rfl
    go_enter Try.func103, Try.ntmps103
    go_wp2_with (go_at_call 130; refine (Char_any _ _).mono ?_; rintro e w' ⟨rfl, rfl⟩)
    go_ret2
    exact ⟨by rw [HP.out, hc']; rfl, Below.refl _ _⟩

end Go.Proofs.Ythifddkmbjnncaa

/-
  The walks of glyph.head and glyph.Next.
-/
namespace Go.Proofs.Ythifddkmbjnncaa
open Go.RowKit

set_option maxHeartbeats 400000 in
theorem head_any (x : Int) (w : World) (h0 : 0 ≤ x) (h1 : x < 256) :
    Calls Try.prog 102 #[.int .u8 x] w fun e w' => e = .returned (.tuple #[.int .i64 (headN x : Nat), .int .i32 (headC x)]) ∧ w = w' := by
  go_enter Try.func102, Try.ntmps102
  go_wp2
  all_goals go_ret2
  all_goals (refine ⟨ret_ii ?_ ?_, rfl⟩)
  all_goals (simp only [headN, headC]; repeat (first | rw [if_pos (by omega)] | rw [if_neg (by omega)])) <;> rfl

theorem head_as (x : Int) (w : World) (h0 : 0 ≤ x) (h1 : x < 256) (n : Nat) (c : Int) (hn : headN x = n) (hc : headC x = c) :
    Calls Try.prog 102 #[.int .u8 x] w fun e w' => e = .returned (.tuple #[.int .i64 (n : Nat), .int .i32 c]) ∧ w = w' := by
  subst hn; subst hc
  exact head_any x w h0 h1

set_option maxHeartbeats 400000 in
theorem Next_nil (s : ByteArray) (w : World) (he : s.toList.isEmpty = true) :
    Calls Try.prog 77 #[.string s] w (Ret w (.tuple #[.int .i32 0, .int .i64 0])) := by
  go_enter Try.func77, Try.ntmps77
  go_wp2_with fail
  go_ret2
  exact ⟨rfl, Below.refl _ _⟩

set_option maxHeartbeats 400000 in
theorem Next_none (s : ByteArray) (w : World) (b : UInt8) (_hs : s.size ≤ maxLen) (hp : 0 < s.size) (hne : s.toList.isEmpty = false) (he : s[0] = b) (h0 : Hid (headN b.toNat = 0)) :
    Calls Try.prog 77 #[.string s] w (Ret w (.tuple #[.int .i32 (-1), .int .i64 0])) := by
  unfold maxLen at _hs
  have hb256 : (b.toNat : Int) < 256 := by have := b.toNat_lt; omega
  go_enter Try.func77, Try.ntmps77
  go_wp2_with (go_at_call 102; refine (head_as _ _ (by omega) (by omega) 0 _ h0.out rfl).mono ?_; rintro e w' ⟨rfl, rfl⟩)
  go_ret2
  exact ⟨rfl, Below.refl _ _⟩

set_option maxHeartbeats 400000 in
theorem Next_short (s : ByteArray) (w : World) (b : UInt8) (n : Nat) (hs : s.size ≤ maxLen) (hp : 0 < s.size) (hne : s.toList.isEmpty = false) (he : s[0] = b) (h0 : Hid (headN b.toNat = n)) (hn : s.size < n) (_h4 : n ≤ 4) :
    Calls Try.prog 77 #[.string s] w (Ret w (.tuple #[.int .i32 (-1), .int .i64 0])) := by
  unfold maxLen at hs
  have hb256 : (b.toNat : Int) < 256 := by have := b.toNat_lt; omega
  have hz : ((n : Int) == 0) = false := by simp; omega
  have hlt : decide (s.size < n) = true := by simp; omega
  go_enter Try.func77, Try.ntmps77
  go_wp2_with (go_at_call 102; refine (head_as _ _ (by omega) (by omega) n _ h0.out rfl).mono ?_; rintro e w' ⟨rfl, rfl⟩)
  go_ret2
  exact ⟨rfl, Below.refl _ _⟩

theorem and192 : ∀ x : Fin 256, (bits .and .u8 (x.val : Int) 192 != 128) = !decide (128 ≤ (x.val : Int) ∧ (x.val : Int) < 192) := by decide +kernel
theorem and192' (b : UInt8) : (bits .and .u8 (b.toNat : Int) 192 != 128) = !contB b := and192 ⟨b.toNat, b.toNat_lt⟩

set_option maxRecDepth 100000 in
set_option maxHeartbeats 1000000 in
theorem Next_good (s : ByteArray) (w : World) (b : UInt8) (n L : Nat) (c0 : Int) (m : List UInt8) (_hs : s.size ≤ maxLen) (hp : 0 < s.size) (hne : s.toList.isEmpty = false) (he : s[0] = b) (h0 : Hid (headN b.toNat = n)) (hc0 : Hid (headC b.toNat = c0))
    (hn : n ≤ s.size) (h1 : 1 ≤ n) (h4 : n ≤ 4) (hL : Hid (L + 1 = n)) (hml : Hid (m.length = L)) (hm : Hid ((s.extract 1 n).data.toList = m)) (hm0 : Hid ((s.extract 0 n).data.toList = b :: m)) (hbd : Hid (∀ k, k ≤ m.length → 0 ≤ foldC c0 (m.take k) ∧ foldC c0 (m.take k) < 2097152))
    (V : Int × Nat) (hV : Hid (V = if m.all contB && (charB (foldC c0 m) && (enc (foldC c0 m) == b :: m)) then (foldC c0 m, n) else (-1, 0))) :
    Calls Try.prog 77 #[.string s] w (Ret w (.tuple #[.int .i32 V.1, .int .i64 (V.2 : Nat)])) := by
  unfold maxLen at _hs
  have hb256 : (b.toNat : Int) < 256 := by have := b.toNat_lt; omega
  have hz : ((n : Int) == 0) = false := by simp; omega
  have hlt : decide (s.size < n) = false := by simp; omega
  have hsz : (s.extract 1 n).size = L := by have := hL.out; simp; omega
  obtain ⟨cap, wb, hcv, hbb, hbz, hbc⟩ := run_bytes_of (P := Try.prog) w 9 78 5 (s.extract 1 n) L _ hsz hm.out Try.underlying9 Try.underlying78 Try.underlying5
  have hz' : w.heap.size < wb.heap.size := by omega
  have hL4 : L ≤ 3 := by have := hL.out; omega
  have HBC := Lib.hid hbc
  clear hbc hbz hsz
  go_enter Try.func77, Try.ntmps77
  go_wp2_with (go_at_call 102; refine (head_as _ _ (by omega) (by omega) n c0 h0.out hc0.out).mono ?_; rintro e w' ⟨rfl, rfl⟩)
  go_loop [5, 31] (fun c i => ∃ k : Nat, k ≤ L ∧ i = .int .i64 k ∧ c = .int .i32 (foldC c0 (m.take k)) ∧ (m.take k).all contB = true) (fun _ i => L - (intOf i).toNat)
  case atStart => exact ⟨0, Nat.zero_le _, rfl, rfl, rfl⟩
  case round =>
    obtain ⟨k, hk, rfl, rfl, hall⟩ := hrel
    have HA := Lib.hid hall
    clear hall
    have hbk := hbd.out k (by have := hml.out; omega)
    generalize hck : foldC c0 (m.take k) = ck at *
    have HCK := Lib.hid hck
    clear hck
    obtain ⟨hbk0, hbk1⟩ := hbk
    by_cases hlt : k < L
    · obtain ⟨x, HX⟩ : ∃ x, Hid (m[k]? = some x) := ⟨m[k]'(by have := hml.out; omega), List.getElem?_eq_getElem _⟩
      have hcell : wb.cell? ⟨w.heap.size, k, none⟩ = some (.int .u8 x.toNat) := by
        have hkm : k < m.length := by have := hml.out; omega
        rw [HBC.out k hkm]
        have := HX.out
        rw [List.getElem?_eq_getElem hkm] at this
        simp at this; rw [this]
      have hx1 : (x.toNat : Int) < 256 := by have := x.toNat_lt; omega
      have ht := and192' x
      by_cases hcx : contB x = true
      · go_wp2
        go_round
        case rel =>
          have hkm : k < m.length := by have := hml.out; omega
          have htk : m.take (k + 1) = m.take k ++ [x] := by
            have := HX.out
            rw [List.take_add_one, this]; rfl
          refine ⟨k + 1, by omega, by go_num, ?_, ?_⟩
          · rw [htk, foldC_snoc, HCK.out]
          · rw [htk, List.all_append, HA.out]; simpa using hcx
        case measure => simp [intOf]; omega
      · have hcx' : contB x = false := by simpa using hcx
        clear hcx
        go_wp2
        go_ret2
        have hall : m.all contB = false := by
          cases hh : m.all contB with
          | false => rfl
          | true => rw [List.all_eq_true] at hh; rw [hh x (List.mem_of_getElem? HX.out)] at hcx'; cases hcx'
        have hv : V = (-1, 0) := by rw [hV.out, hall]; rfl
        exact ⟨by rw [hv]; rfl, hbb⟩
    · obtain rfl : k = L := by omega
      have hfull : m.take k = m := List.take_of_length_le (by have := hml.out; omega)
      have HCK' : Hid (foldC c0 m = ck) := by have := HCK.out; rw [hfull] at this; exact this
      have hm0' : (s.extract 0 n).toList = b :: m := by rw [ByteArray.toList_eq]; exact hm0.out
      by_cases hch : charB ck = true
      · have hpf : putF ck = enc ck := by unfold putF; rw [if_pos hch]
        have HPF := Lib.hid hpf
        clear hpf
        by_cases hq : (putF ck == (s.extract 0 n).toList) = true
        · have hv : Hid (V = (ck, n)) := by
            have hq' : (enc ck == b :: m) = true := by rw [← HPF.out, ← hm0']; exact hq
            have ha : m.all contB = true := by have := HA.out; rwa [hfull] at this
            show V = (ck, n)
            rw [hV.out, HCK'.out, ha, hch, hq']; rfl
          have HM := Lib.hid hm0'
          clear hm0' hfull
          go_wp2_with (go_at_call 103; refine (Put_any _ _).mono ?_; rintro e w2 ⟨rfl, hb2⟩)
          go_ret2
          exact ⟨by rw [hv.out]; rfl, hbb.trans (hb2.mono (by omega))⟩
        · have hq0 : (putF ck == (s.extract 0 n).toList) = false := by simpa using hq
          clear hq
          have hv : Hid (V = (-1, 0)) := by
            have hq' : (enc ck == b :: m) = false := by rw [← HPF.out, ← hm0']; exact hq0
            show V = (-1, 0)
            rw [hV.out, HCK'.out, hq']; simp
          have HM := Lib.hid hm0'
          clear hm0' hfull
          go_wp2_with (go_at_call 103; refine (Put_any _ _).mono ?_; rintro e w2 ⟨rfl, hb2⟩)
          go_ret2
          exact ⟨by rw [hv.out]; rfl, hbb.trans (hb2.mono (by omega))⟩
      · have hch' : charB ck = false := by simpa using hch
        clear hch
        have hv : Hid (V = (-1, 0)) := by
          show V = (-1, 0)
          rw [hV.out, HCK'.out, hch']; simp
        clear hfull
        have HM := Lib.hid hm0'
        clear hm0'
        go_wp2_with (go_at_call 103; refine (Put_any _ _).mono ?_; rintro e w2 ⟨rfl, hb2⟩)
        go_ret2
        exact ⟨by rw [hv.out]; rfl, hbb.trans (hb2.mono (by omega))⟩

theorem size_toList (s : ByteArray) : s.data.toList.length = s.size := by rw [Array.length_toList]; rfl

theorem get0_of (s : ByteArray) (b : UInt8) (t : List UInt8) (h : s.data.toList = b :: t) (hp : 0 < s.size) : s[0] = b := by
  have : s.data[0]'hp = b := by
    have h2 : s.data.toList[0]? = some b := by rw [h]; rfl
    rw [Array.getElem?_toList, Array.getElem?_eq_getElem hp] at h2
    exact Option.some.inj h2
  exact this

/-- glyph.Next: any text. -/
theorem Next_any (s : ByteArray) (w : World) (hs : s.size ≤ maxLen) :
    Calls Try.prog 77 #[.string s] w (Ret w (.tuple #[.int .i32 (nextL s.data.toList).1, .int .i64 ((nextL s.data.toList).2 : Nat)])) := by
  have hsz := size_toList s
  cases hl : s.data.toList with
  | nil =>
    exact Next_nil s w (by rw [ByteArray.toList_eq, hl]; rfl)
  | cons b t =>
    have hp : 0 < s.size := by rw [← hsz, hl]; simp
    have hne : s.toList.isEmpty = false := by rw [ByteArray.toList_eq, hl]; rfl
    have he := get0_of s b t hl hp
    have hlen : t.length + 1 = s.size := by rw [← hsz, hl]; rfl
    have h4 := headN_le b.toNat
    by_cases h0 : headN b.toNat = 0
    · have hv : nextL (b :: t) = (-1, 0) := by simp [nextL, h0]
      rw [hv]
      exact Next_none s w b hs hp hne he h0
    · by_cases hlt : t.length + 1 < headN b.toNat
      · have hv : nextL (b :: t) = (-1, 0) := by simp [nextL, h0, hlt]
        rw [hv]
        exact Next_short s w b _ hs hp hne he rfl (by omega) h4
      · have hv : nextL (b :: t) = if (t.take (headN b.toNat - 1)).all contB && (charB (foldC (headC b.toNat) (t.take (headN b.toNat - 1))) && (enc (foldC (headC b.toNat) (t.take (headN b.toNat - 1))) == b :: t.take (headN b.toNat - 1))) then (foldC (headC b.toNat) (t.take (headN b.toNat - 1)), headN b.toNat) else (-1, 0) := by
          simp only [nextL]; rw [if_neg h0, if_neg hlt]
        have hml : (t.take (headN b.toNat - 1)).length = headN b.toNat - 1 := by rw [List.length_take]; omega
        have hx1 : (s.extract 1 (headN b.toNat)).data.toList = t.take (headN b.toNat - 1) := by rw [Lib.extract_data, hl]; rfl
        have hx0 : (s.extract 0 (headN b.toNat)).data.toList = b :: t.take (headN b.toNat - 1) := by
          rw [Lib.extract_data, hl]
          obtain ⟨q, hq⟩ : ∃ q, headN b.toNat = q + 1 := ⟨headN b.toNat - 1, by omega⟩
          rw [hq]; rfl
        exact Next_good s w b (headN b.toNat) (headN b.toNat - 1) (headC b.toNat) _ hs hp hne he rfl rfl (by omega) (by omega) h4 (by show _ = _; omega) hml hx1 hx0 (foldC_bd _ (by omega) _ (by omega)) _ hv
end Go.Proofs.Ythifddkmbjnncaa

/-
  The walks of glyph.starts, (span).has, Start and Part.
-/
namespace Go.Proofs.Ythifddkmbjnncaa
open Go.RowKit

set_option maxRecDepth 100000 in
set_option maxHeartbeats 1000000 in
theorem has_any (a b c : Int) (w : World) (r : Bool) (hr : Hid ((decide (a ≤ c) && decide (c ≤ b)) = r)) :
    Calls Try.prog 78 #[.agg #[.int .i32 a, .int .i32 b], .int .i32 c] w (Ret w (.bool r)) := by
  rw [← hr.out]
  go_enter Try.func78, Try.ntmps78
  go_wp2
  all_goals go_ret
  all_goals (refine ⟨ret_bool ?_, (Below.refl _ _).alloc (Nat.le_refl _) _⟩)
  all_goals (rw [Bool.eq_iff_iff]; simp; try omega)

def startsTab : Array Value := #[.int .i32 65, .int .i32 90, .int .i32 95, .int .i32 95, .int .i32 97, .int .i32 122, .int .i32 192, .int .i32 214, .int .i32 216, .int .i32 246, .int .i32 248, .int .i32 767, .int .i32 880, .int .i32 893, .int .i32 895, .int .i32 8191, .int .i32 8204, .int .i32 8205, .int .i32 8304, .int .i32 8591, .int .i32 11264, .int .i32 12271, .int .i32 12289, .int .i32 55295, .int .i32 63744, .int .i32 64975, .int .i32 65008, .int .i32 65533, .int .i32 65536, .int .i32 983039]
def partsTab : Array Value := #[.int .i32 45, .int .i32 46, .int .i32 48, .int .i32 57, .int .i32 183, .int .i32 183, .int .i32 768, .int .i32 879, .int .i32 8255, .int .i32 8256]

theorem wpList_store_starts {ops : Array Oper} {rest : List Oper} {op : Oper} {a : Act} {w : World} {Q : Exit → Act → World → Prop} (z : Array Value) (hz : z.size = 30) (hgd : op.guard = none) (ho : op.op = .store 109 (.tmp 0) (.tmp 16))
    (hx : a.eval (.tmp 0) = .pointer (some ⟨w.heap.size, 0, none⟩)) (hy : a.eval (.tmp 16) = .agg startsTab)
    (h : wpList Try.prog ops Q rest (a.put op.dst undef) (w.alloc (.cells startsTab 109))) : wpList Try.prog ops Q (op :: rest) a (w.alloc (.cells z 109)) :=
  wpList_plain hgd fun _ hK => by
    unfold Oper.wp execOp
    simp only [ho, hx, hy]
    have := run_storeAt_new (P := Try.prog) w 109 z startsTab (by kernel_rfl) hz (by kernel_rfl)
    simp only [Sem.run_bind, this, Result.andThen_ok]
    exact hK _ _ h

set_option maxRecDepth 100000 in
set_option maxHeartbeats 1000000 in
theorem starts_any (w : World) : Calls Try.prog 79 #[] w (Ret w (.agg startsTab)) := by
  go_enter Try.func79, Try.ntmps79
  go_wp2_with (refine wpList_store_starts _ rfl rfl rfl rfl rfl ?_)
  exact bodyPost_ret (v := .agg startsTab) (results_cell_row Try.results79 _ _ w.heap.size 109 startsTab (0, 0) _ rfl (heap_alloc_new w _) Try.underlying109 rfl (by kernel_rfl)) rfl ⟨rfl, (Below.refl _ _).alloc (Nat.le_refl _) _⟩

theorem st_0 (w : World) : (Instr.index 109 (.agg startsTab) (.int .i64 0)).run Try.prog w = .ok (.agg #[.int .i32 65, .int .i32 90]) w := by kernel_rfl
theorem st_1 (w : World) : (Instr.index 109 (.agg startsTab) (.int .i64 1)).run Try.prog w = .ok (.agg #[.int .i32 95, .int .i32 95]) w := by kernel_rfl
theorem st_2 (w : World) : (Instr.index 109 (.agg startsTab) (.int .i64 2)).run Try.prog w = .ok (.agg #[.int .i32 97, .int .i32 122]) w := by kernel_rfl
theorem st_3 (w : World) : (Instr.index 109 (.agg startsTab) (.int .i64 3)).run Try.prog w = .ok (.agg #[.int .i32 192, .int .i32 214]) w := by kernel_rfl
theorem st_4 (w : World) : (Instr.index 109 (.agg startsTab) (.int .i64 4)).run Try.prog w = .ok (.agg #[.int .i32 216, .int .i32 246]) w := by kernel_rfl
theorem st_5 (w : World) : (Instr.index 109 (.agg startsTab) (.int .i64 5)).run Try.prog w = .ok (.agg #[.int .i32 248, .int .i32 767]) w := by kernel_rfl
theorem st_6 (w : World) : (Instr.index 109 (.agg startsTab) (.int .i64 6)).run Try.prog w = .ok (.agg #[.int .i32 880, .int .i32 893]) w := by kernel_rfl
theorem st_7 (w : World) : (Instr.index 109 (.agg startsTab) (.int .i64 7)).run Try.prog w = .ok (.agg #[.int .i32 895, .int .i32 8191]) w := by kernel_rfl
theorem st_8 (w : World) : (Instr.index 109 (.agg startsTab) (.int .i64 8)).run Try.prog w = .ok (.agg #[.int .i32 8204, .int .i32 8205]) w := by kernel_rfl
theorem st_9 (w : World) : (Instr.index 109 (.agg startsTab) (.int .i64 9)).run Try.prog w = .ok (.agg #[.int .i32 8304, .int .i32 8591]) w := by kernel_rfl
theorem st_10 (w : World) : (Instr.index 109 (.agg startsTab) (.int .i64 10)).run Try.prog w = .ok (.agg #[.int .i32 11264, .int .i32 12271]) w := by kernel_rfl
theorem st_11 (w : World) : (Instr.index 109 (.agg startsTab) (.int .i64 11)).run Try.prog w = .ok (.agg #[.int .i32 12289, .int .i32 55295]) w := by kernel_rfl
theorem st_12 (w : World) : (Instr.index 109 (.agg startsTab) (.int .i64 12)).run Try.prog w = .ok (.agg #[.int .i32 63744, .int .i32 64975]) w := by kernel_rfl
theorem st_13 (w : World) : (Instr.index 109 (.agg startsTab) (.int .i64 13)).run Try.prog w = .ok (.agg #[.int .i32 65008, .int .i32 65533]) w := by kernel_rfl
theorem st_14 (w : World) : (Instr.index 109 (.agg startsTab) (.int .i64 14)).run Try.prog w = .ok (.agg #[.int .i32 65536, .int .i32 983039]) w := by kernel_rfl
theorem pt_0 (w : World) : (Instr.index 108 (.agg partsTab) (.int .i64 0)).run Try.prog w = .ok (.agg #[.int .i32 45, .int .i32 46]) w := by kernel_rfl
theorem pt_1 (w : World) : (Instr.index 108 (.agg partsTab) (.int .i64 1)).run Try.prog w = .ok (.agg #[.int .i32 48, .int .i32 57]) w := by kernel_rfl
theorem pt_2 (w : World) : (Instr.index 108 (.agg partsTab) (.int .i64 2)).run Try.prog w = .ok (.agg #[.int .i32 183, .int .i32 183]) w := by kernel_rfl
theorem pt_3 (w : World) : (Instr.index 108 (.agg partsTab) (.int .i64 3)).run Try.prog w = .ok (.agg #[.int .i32 768, .int .i32 879]) w := by kernel_rfl
theorem pt_4 (w : World) : (Instr.index 108 (.agg partsTab) (.int .i64 4)).run Try.prog w = .ok (.agg #[.int .i32 8255, .int .i32 8256]) w := by kernel_rfl
end Go.Proofs.Ythifddkmbjnncaa

/-
  The walk of glyph.Start.
-/
namespace Go.Proofs.Ythifddkmbjnncaa
open Go.RowKit


set_option maxRecDepth 100000 in
set_option maxHeartbeats 4000000 in
theorem Start_any (c : Int) (w : World) :
    Calls Try.prog 47 #[.int .i32 c] w (Ret w (.bool (startB c))) := by
  have q0 := st_0
  have q1 := st_1
  have q2 := st_2
  have q3 := st_3
  have q4 := st_4
  have q5 := st_5
  have q6 := st_6
  have q7 := st_7
  have q8 := st_8
  have q9 := st_9
  have q10 := st_10
  have q11 := st_11
  have q12 := st_12
  have q13 := st_13
  have q14 := st_14
  go_enter Try.func47, Try.ntmps47
  go_wp2_with fail
  refine (starts_any _).mono ?_; rintro e w0 ⟨rfl, hb0⟩
  have hz0 := hb0.size
  go_wp2_with fail
  refine wp_loop_rounds 16 ?_
  rw [rounds_succ]
  by_cases h0 : 65 ≤ c ∧ c ≤ 90
  · have H0 : Hid ((decide ((65 : Int) ≤ c) && decide (c ≤ 90)) = true) := by show _ = _; simp [h0]
    have hv : Hid (startB c = true) := by show _ = _; unfold startB; simp; omega
    clear h0
    go_wp2_with fail
    refine (has_any 65 90 _ _ true H0).mono ?_; rintro e w1 ⟨rfl, hb1⟩
    have hz1 := hb1.size
    simp only [World.size_alloc] at hz1
    go_wp2_with fail
    go_ret
    exact ⟨by rw [hv.out]; rfl, (((hb0).alloc (by omega) _).trans (hb1.mono (by first | omega | (simp; done) | (simp; omega))))⟩
  have H0 : Hid ((decide ((65 : Int) ≤ c) && decide (c ≤ 90)) = false) := by show _ = _; simp; omega
  go_wp2_with fail
  refine (has_any 65 90 _ _ false H0).mono ?_; rintro e w1 ⟨rfl, hb1⟩
  have hz1 := hb1.size
  simp only [World.size_alloc] at hz1
  go_wp2_with fail
  rw [rounds_succ]
  by_cases h1 : 95 ≤ c ∧ c ≤ 95
  · have H1 : Hid ((decide ((95 : Int) ≤ c) && decide (c ≤ 95)) = true) := by show _ = _; simp [h1]
    have hv : Hid (startB c = true) := by show _ = _; unfold startB; simp; omega
    clear h1
    go_wp2_with fail
    refine (has_any 95 95 _ _ true H1).mono ?_; rintro e w2 ⟨rfl, hb2⟩
    have hz2 := hb2.size
    simp only [World.size_alloc] at hz2
    go_wp2_with fail
    go_ret
    exact ⟨by rw [hv.out]; rfl, ((((((hb0).alloc (by omega) _).trans (hb1.mono (by first | omega | (simp; done) | (simp; omega))))).alloc (by omega) _).trans (hb2.mono (by first | omega | (simp; done) | (simp; omega))))⟩
  have H1 : Hid ((decide ((95 : Int) ≤ c) && decide (c ≤ 95)) = false) := by show _ = _; simp; omega
  go_wp2_with fail
  refine (has_any 95 95 _ _ false H1).mono ?_; rintro e w2 ⟨rfl, hb2⟩
  have hz2 := hb2.size
  simp only [World.size_alloc] at hz2
  go_wp2_with fail
  rw [rounds_succ]
  by_cases h2 : 97 ≤ c ∧ c ≤ 122
  · have H2 : Hid ((decide ((97 : Int) ≤ c) && decide (c ≤ 122)) = true) := by show _ = _; simp [h2]
    have hv : Hid (startB c = true) := by show _ = _; unfold startB; simp; omega
    clear h2
    go_wp2_with fail
    refine (has_any 97 122 _ _ true H2).mono ?_; rintro e w3 ⟨rfl, hb3⟩
    have hz3 := hb3.size
    simp only [World.size_alloc] at hz3
    go_wp2_with fail
    go_ret
    exact ⟨by rw [hv.out]; rfl, (((((((((hb0).alloc (by omega) _).trans (hb1.mono (by first | omega | (simp; done) | (simp; omega))))).alloc (by omega) _).trans (hb2.mono (by first | omega | (simp; done) | (simp; omega))))).alloc (by omega) _).trans (hb3.mono (by first | omega | (simp; done) | (simp; omega))))⟩
  have H2 : Hid ((decide ((97 : Int) ≤ c) && decide (c ≤ 122)) = false) := by show _ = _; simp; omega
  go_wp2_with fail
  refine (has_any 97 122 _ _ false H2).mono ?_; rintro e w3 ⟨rfl, hb3⟩
  have hz3 := hb3.size
  simp only [World.size_alloc] at hz3
  go_wp2_with fail
  rw [rounds_succ]
  by_cases h3 : 192 ≤ c ∧ c ≤ 214
  · have H3 : Hid ((decide ((192 : Int) ≤ c) && decide (c ≤ 214)) = true) := by show _ = _; simp [h3]
    have hv : Hid (startB c = true) := by show _ = _; unfold startB; simp; omega
    clear h3
    go_wp2_with fail
    refine (has_any 192 214 _ _ true H3).mono ?_; rintro e w4 ⟨rfl, hb4⟩
    have hz4 := hb4.size
    simp only [World.size_alloc] at hz4
    go_wp2_with fail
    go_ret
    exact ⟨by rw [hv.out]; rfl, ((((((((((((hb0).alloc (by omega) _).trans (hb1.mono (by first | omega | (simp; done) | (simp; omega))))).alloc (by omega) _).trans (hb2.mono (by first | omega | (simp; done) | (simp; omega))))).alloc (by omega) _).trans (hb3.mono (by first | omega | (simp; done) | (simp; omega))))).alloc (by omega) _).trans (hb4.mono (by first | omega | (simp; done) | (simp; omega))))⟩
  have H3 : Hid ((decide ((192 : Int) ≤ c) && decide (c ≤ 214)) = false) := by show _ = _; simp; omega
  go_wp2_with fail
  refine (has_any 192 214 _ _ false H3).mono ?_; rintro e w4 ⟨rfl, hb4⟩
  have hz4 := hb4.size
  simp only [World.size_alloc] at hz4
  go_wp2_with fail
  rw [rounds_succ]
  by_cases h4 : 216 ≤ c ∧ c ≤ 246
  · have H4 : Hid ((decide ((216 : Int) ≤ c) && decide (c ≤ 246)) = true) := by show _ = _; simp [h4]
    have hv : Hid (startB c = true) := by show _ = _; unfold startB; simp; omega
    clear h4
    go_wp2_with fail
    refine (has_any 216 246 _ _ true H4).mono ?_; rintro e w5 ⟨rfl, hb5⟩
    have hz5 := hb5.size
    simp only [World.size_alloc] at hz5
    go_wp2_with fail
    go_ret
    exact ⟨by rw [hv.out]; rfl, (((((((((((((((hb0).alloc (by omega) _).trans (hb1.mono (by first | omega | (simp; done) | (simp; omega))))).alloc (by omega) _).trans (hb2.mono (by first | omega | (simp; done) | (simp; omega))))).alloc (by omega) _).trans (hb3.mono (by first | omega | (simp; done) | (simp; omega))))).alloc (by omega) _).trans (hb4.mono (by first | omega | (simp; done) | (simp; omega))))).alloc (by omega) _).trans (hb5.mono (by first | omega | (simp; done) | (simp; omega))))⟩
  have H4 : Hid ((decide ((216 : Int) ≤ c) && decide (c ≤ 246)) = false) := by show _ = _; simp; omega
  go_wp2_with fail
  refine (has_any 216 246 _ _ false H4).mono ?_; rintro e w5 ⟨rfl, hb5⟩
  have hz5 := hb5.size
  simp only [World.size_alloc] at hz5
  go_wp2_with fail
  rw [rounds_succ]
  by_cases h5 : 248 ≤ c ∧ c ≤ 767
  · have H5 : Hid ((decide ((248 : Int) ≤ c) && decide (c ≤ 767)) = true) := by show _ = _; simp [h5]
    have hv : Hid (startB c = true) := by show _ = _; unfold startB; simp; omega
    clear h5
    go_wp2_with fail
    refine (has_any 248 767 _ _ true H5).mono ?_; rintro e w6 ⟨rfl, hb6⟩
    have hz6 := hb6.size
    simp only [World.size_alloc] at hz6
    go_wp2_with fail
    go_ret
    exact ⟨by rw [hv.out]; rfl, ((((((((((((((((((hb0).alloc (by omega) _).trans (hb1.mono (by first | omega | (simp; done) | (simp; omega))))).alloc (by omega) _).trans (hb2.mono (by first | omega | (simp; done) | (simp; omega))))).alloc (by omega) _).trans (hb3.mono (by first | omega | (simp; done) | (simp; omega))))).alloc (by omega) _).trans (hb4.mono (by first | omega | (simp; done) | (simp; omega))))).alloc (by omega) _).trans (hb5.mono (by first | omega | (simp; done) | (simp; omega))))).alloc (by omega) _).trans (hb6.mono (by first | omega | (simp; done) | (simp; omega))))⟩
  have H5 : Hid ((decide ((248 : Int) ≤ c) && decide (c ≤ 767)) = false) := by show _ = _; simp; omega
  go_wp2_with fail
  refine (has_any 248 767 _ _ false H5).mono ?_; rintro e w6 ⟨rfl, hb6⟩
  have hz6 := hb6.size
  simp only [World.size_alloc] at hz6
  go_wp2_with fail
  rw [rounds_succ]
  by_cases h6 : 880 ≤ c ∧ c ≤ 893
  · have H6 : Hid ((decide ((880 : Int) ≤ c) && decide (c ≤ 893)) = true) := by show _ = _; simp [h6]
    have hv : Hid (startB c = true) := by show _ = _; unfold startB; simp; omega
    clear h6
    go_wp2_with fail
    refine (has_any 880 893 _ _ true H6).mono ?_; rintro e w7 ⟨rfl, hb7⟩
    have hz7 := hb7.size
    simp only [World.size_alloc] at hz7
    go_wp2_with fail
    go_ret
    exact ⟨by rw [hv.out]; rfl, (((((((((((((((((((((hb0).alloc (by omega) _).trans (hb1.mono (by first | omega | (simp; done) | (simp; omega))))).alloc (by omega) _).trans (hb2.mono (by first | omega | (simp; done) | (simp; omega))))).alloc (by omega) _).trans (hb3.mono (by first | omega | (simp; done) | (simp; omega))))).alloc (by omega) _).trans (hb4.mono (by first | omega | (simp; done) | (simp; omega))))).alloc (by omega) _).trans (hb5.mono (by first | omega | (simp; done) | (simp; omega))))).alloc (by omega) _).trans (hb6.mono (by first | omega | (simp; done) | (simp; omega))))).alloc (by omega) _).trans (hb7.mono (by first | omega | (simp; done) | (simp; omega))))⟩
  have H6 : Hid ((decide ((880 : Int) ≤ c) && decide (c ≤ 893)) = false) := by show _ = _; simp; omega
  go_wp2_with fail
  refine (has_any 880 893 _ _ false H6).mono ?_; rintro e w7 ⟨rfl, hb7⟩
  have hz7 := hb7.size
  simp only [World.size_alloc] at hz7
  go_wp2_with fail
  rw [rounds_succ]
  by_cases h7 : 895 ≤ c ∧ c ≤ 8191
  · have H7 : Hid ((decide ((895 : Int) ≤ c) && decide (c ≤ 8191)) = true) := by show _ = _; simp [h7]
    have hv : Hid (startB c = true) := by show _ = _; unfold startB; simp; omega
    clear h7
    go_wp2_with fail
    refine (has_any 895 8191 _ _ true H7).mono ?_; rintro e w8 ⟨rfl, hb8⟩
    have hz8 := hb8.size
    simp only [World.size_alloc] at hz8
    go_wp2_with fail
    go_ret
    exact ⟨by rw [hv.out]; rfl, ((((((((((((((((((((((((hb0).alloc (by omega) _).trans (hb1.mono (by first | omega | (simp; done) | (simp; omega))))).alloc (by omega) _).trans (hb2.mono (by first | omega | (simp; done) | (simp; omega))))).alloc (by omega) _).trans (hb3.mono (by first | omega | (simp; done) | (simp; omega))))).alloc (by omega) _).trans (hb4.mono (by first | omega | (simp; done) | (simp; omega))))).alloc (by omega) _).trans (hb5.mono (by first | omega | (simp; done) | (simp; omega))))).alloc (by omega) _).trans (hb6.mono (by first | omega | (simp; done) | (simp; omega))))).alloc (by omega) _).trans (hb7.mono (by first | omega | (simp; done) | (simp; omega))))).alloc (by omega) _).trans (hb8.mono (by first | omega | (simp; done) | (simp; omega))))⟩
  have H7 : Hid ((decide ((895 : Int) ≤ c) && decide (c ≤ 8191)) = false) := by show _ = _; simp; omega
  go_wp2_with fail
  refine (has_any 895 8191 _ _ false H7).mono ?_; rintro e w8 ⟨rfl, hb8⟩
  have hz8 := hb8.size
  simp only [World.size_alloc] at hz8
  go_wp2_with fail
  rw [rounds_succ]
  by_cases h8 : 8204 ≤ c ∧ c ≤ 8205
  · have H8 : Hid ((decide ((8204 : Int) ≤ c) && decide (c ≤ 8205)) = true) := by show _ = _; simp [h8]
    have hv : Hid (startB c = true) := by show _ = _; unfold startB; simp; omega
    clear h8
    go_wp2_with fail
    refine (has_any 8204 8205 _ _ true H8).mono ?_; rintro e w9 ⟨rfl, hb9⟩
    have hz9 := hb9.size
    simp only [World.size_alloc] at hz9
    go_wp2_with fail
    go_ret
    exact ⟨by rw [hv.out]; rfl, (((((((((((((((((((((((((((hb0).alloc (by omega) _).trans (hb1.mono (by first | omega | (simp; done) | (simp; omega))))).alloc (by omega) _).trans (hb2.mono (by first | omega | (simp; done) | (simp; omega))))).alloc (by omega) _).trans (hb3.mono (by first | omega | (simp; done) | (simp; omega))))).alloc (by omega) _).trans (hb4.mono (by first | omega | (simp; done) | (simp; omega))))).alloc (by omega) _).trans (hb5.mono (by first | omega | (simp; done) | (simp; omega))))).alloc (by omega) _).trans (hb6.mono (by first | omega | (simp; done) | (simp; omega))))).alloc (by omega) _).trans (hb7.mono (by first | omega | (simp; done) | (simp; omega))))).alloc (by omega) _).trans (hb8.mono (by first | omega | (simp; done) | (simp; omega))))).alloc (by omega) _).trans (hb9.mono (by first | omega | (simp; done) | (simp; omega))))⟩
  have H8 : Hid ((decide ((8204 : Int) ≤ c) && decide (c ≤ 8205)) = false) := by show _ = _; simp; omega
  go_wp2_with fail
  refine (has_any 8204 8205 _ _ false H8).mono ?_; rintro e w9 ⟨rfl, hb9⟩
  have hz9 := hb9.size
  simp only [World.size_alloc] at hz9
  go_wp2_with fail
  rw [rounds_succ]
  by_cases h9 : 8304 ≤ c ∧ c ≤ 8591
  · have H9 : Hid ((decide ((8304 : Int) ≤ c) && decide (c ≤ 8591)) = true) := by show _ = _; simp [h9]
    have hv : Hid (startB c = true) := by show _ = _; unfold startB; simp; omega
    clear h9
    go_wp2_with fail
    refine (has_any 8304 8591 _ _ true H9).mono ?_; rintro e w10 ⟨rfl, hb10⟩
    have hz10 := hb10.size
    simp only [World.size_alloc] at hz10
    go_wp2_with fail
    go_ret
    exact ⟨by rw [hv.out]; rfl, ((((((((((((((((((((((((((((((hb0).alloc (by omega) _).trans (hb1.mono (by first | omega | (simp; done) | (simp; omega))))).alloc (by omega) _).trans (hb2.mono (by first | omega | (simp; done) | (simp; omega))))).alloc (by omega) _).trans (hb3.mono (by first | omega | (simp; done) | (simp; omega))))).alloc (by omega) _).trans (hb4.mono (by first | omega | (simp; done) | (simp; omega))))).alloc (by omega) _).trans (hb5.mono (by first | omega | (simp; done) | (simp; omega))))).alloc (by omega) _).trans (hb6.mono (by first | omega | (simp; done) | (simp; omega))))).alloc (by omega) _).trans (hb7.mono (by first | omega | (simp; done) | (simp; omega))))).alloc (by omega) _).trans (hb8.mono (by first | omega | (simp; done) | (simp; omega))))).alloc (by omega) _).trans (hb9.mono (by first | omega | (simp; done) | (simp; omega))))).alloc (by omega) _).trans (hb10.mono (by first | omega | (simp; done) | (simp; omega))))⟩
  have H9 : Hid ((decide ((8304 : Int) ≤ c) && decide (c ≤ 8591)) = false) := by show _ = _; simp; omega
  go_wp2_with fail
  refine (has_any 8304 8591 _ _ false H9).mono ?_; rintro e w10 ⟨rfl, hb10⟩
  have hz10 := hb10.size
  simp only [World.size_alloc] at hz10
  go_wp2_with fail
  rw [rounds_succ]
  by_cases h10 : 11264 ≤ c ∧ c ≤ 12271
  · have H10 : Hid ((decide ((11264 : Int) ≤ c) && decide (c ≤ 12271)) = true) := by show _ = _; simp [h10]
    have hv : Hid (startB c = true) := by show _ = _; unfold startB; simp; omega
    clear h10
    go_wp2_with fail
    refine (has_any 11264 12271 _ _ true H10).mono ?_; rintro e w11 ⟨rfl, hb11⟩
    have hz11 := hb11.size
    simp only [World.size_alloc] at hz11
    go_wp2_with fail
    go_ret
    exact ⟨by rw [hv.out]; rfl, (((((((((((((((((((((((((((((((((hb0).alloc (by omega) _).trans (hb1.mono (by first | omega | (simp; done) | (simp; omega))))).alloc (by omega) _).trans (hb2.mono (by first | omega | (simp; done) | (simp; omega))))).alloc (by omega) _).trans (hb3.mono (by first | omega | (simp; done) | (simp; omega))))).alloc (by omega) _).trans (hb4.mono (by first | omega | (simp; done) | (simp; omega))))).alloc (by omega) _).trans (hb5.mono (by first | omega | (simp; done) | (simp; omega))))).alloc (by omega) _).trans (hb6.mono (by first | omega | (simp; done) | (simp; omega))))).alloc (by omega) _).trans (hb7.mono (by first | omega | (simp; done) | (simp; omega))))).alloc (by omega) _).trans (hb8.mono (by first | omega | (simp; done) | (simp; omega))))).alloc (by omega) _).trans (hb9.mono (by first | omega | (simp; done) | (simp; omega))))).alloc (by omega) _).trans (hb10.mono (by first | omega | (simp; done) | (simp; omega))))).alloc (by omega) _).trans (hb11.mono (by first | omega | (simp; done) | (simp; omega))))⟩
  have H10 : Hid ((decide ((11264 : Int) ≤ c) && decide (c ≤ 12271)) = false) := by show _ = _; simp; omega
  go_wp2_with fail
  refine (has_any 11264 12271 _ _ false H10).mono ?_; rintro e w11 ⟨rfl, hb11⟩
  have hz11 := hb11.size
  simp only [World.size_alloc] at hz11
  go_wp2_with fail
  rw [rounds_succ]
  by_cases h11 : 12289 ≤ c ∧ c ≤ 55295
  · have H11 : Hid ((decide ((12289 : Int) ≤ c) && decide (c ≤ 55295)) = true) := by show _ = _; simp [h11]
    have hv : Hid (startB c = true) := by show _ = _; unfold startB; simp; omega
    clear h11
    go_wp2_with fail
    refine (has_any 12289 55295 _ _ true H11).mono ?_; rintro e w12 ⟨rfl, hb12⟩
    have hz12 := hb12.size
    simp only [World.size_alloc] at hz12
    go_wp2_with fail
    go_ret
    exact ⟨by rw [hv.out]; rfl, ((((((((((((((((((((((((((((((((((((hb0).alloc (by omega) _).trans (hb1.mono (by first | omega | (simp; done) | (simp; omega))))).alloc (by omega) _).trans (hb2.mono (by first | omega | (simp; done) | (simp; omega))))).alloc (by omega) _).trans (hb3.mono (by first | omega | (simp; done) | (simp; omega))))).alloc (by omega) _).trans (hb4.mono (by first | omega | (simp; done) | (simp; omega))))).alloc (by omega) _).trans (hb5.mono (by first | omega | (simp; done) | (simp; omega))))).alloc (by omega) _).trans (hb6.mono (by first | omega | (simp; done) | (simp; omega))))).alloc (by omega) _).trans (hb7.mono (by first | omega | (simp; done) | (simp; omega))))).alloc (by omega) _).trans (hb8.mono (by first | omega | (simp; done) | (simp; omega))))).alloc (by omega) _).trans (hb9.mono (by first | omega | (simp; done) | (simp; omega))))).alloc (by omega) _).trans (hb10.mono (by first | omega | (simp; done) | (simp; omega))))).alloc (by omega) _).trans (hb11.mono (by first | omega | (simp; done) | (simp; omega))))).alloc (by omega) _).trans (hb12.mono (by first | omega | (simp; done) | (simp; omega))))⟩
  have H11 : Hid ((decide ((12289 : Int) ≤ c) && decide (c ≤ 55295)) = false) := by show _ = _; simp; omega
  go_wp2_with fail
  refine (has_any 12289 55295 _ _ false H11).mono ?_; rintro e w12 ⟨rfl, hb12⟩
  have hz12 := hb12.size
  simp only [World.size_alloc] at hz12
  go_wp2_with fail
  rw [rounds_succ]
  by_cases h12 : 63744 ≤ c ∧ c ≤ 64975
  · have H12 : Hid ((decide ((63744 : Int) ≤ c) && decide (c ≤ 64975)) = true) := by show _ = _; simp [h12]
    have hv : Hid (startB c = true) := by show _ = _; unfold startB; simp; omega
    clear h12
    go_wp2_with fail
    refine (has_any 63744 64975 _ _ true H12).mono ?_; rintro e w13 ⟨rfl, hb13⟩
    have hz13 := hb13.size
    simp only [World.size_alloc] at hz13
    go_wp2_with fail
    go_ret
    exact ⟨by rw [hv.out]; rfl, (((((((((((((((((((((((((((((((((((((((hb0).alloc (by omega) _).trans (hb1.mono (by first | omega | (simp; done) | (simp; omega))))).alloc (by omega) _).trans (hb2.mono (by first | omega | (simp; done) | (simp; omega))))).alloc (by omega) _).trans (hb3.mono (by first | omega | (simp; done) | (simp; omega))))).alloc (by omega) _).trans (hb4.mono (by first | omega | (simp; done) | (simp; omega))))).alloc (by omega) _).trans (hb5.mono (by first | omega | (simp; done) | (simp; omega))))).alloc (by omega) _).trans (hb6.mono (by first | omega | (simp; done) | (simp; omega))))).alloc (by omega) _).trans (hb7.mono (by first | omega | (simp; done) | (simp; omega))))).alloc (by omega) _).trans (hb8.mono (by first | omega | (simp; done) | (simp; omega))))).alloc (by omega) _).trans (hb9.mono (by first | omega | (simp; done) | (simp; omega))))).alloc (by omega) _).trans (hb10.mono (by first | omega | (simp; done) | (simp; omega))))).alloc (by omega) _).trans (hb11.mono (by first | omega | (simp; done) | (simp; omega))))).alloc (by omega) _).trans (hb12.mono (by first | omega | (simp; done) | (simp; omega))))).alloc (by omega) _).trans (hb13.mono (by first | omega | (simp; done) | (simp; omega))))⟩
  have H12 : Hid ((decide ((63744 : Int) ≤ c) && decide (c ≤ 64975)) = false) := by show _ = _; simp; omega
  go_wp2_with fail
  refine (has_any 63744 64975 _ _ false H12).mono ?_; rintro e w13 ⟨rfl, hb13⟩
  have hz13 := hb13.size
  simp only [World.size_alloc] at hz13
  go_wp2_with fail
  rw [rounds_succ]
  by_cases h13 : 65008 ≤ c ∧ c ≤ 65533
  · have H13 : Hid ((decide ((65008 : Int) ≤ c) && decide (c ≤ 65533)) = true) := by show _ = _; simp [h13]
    have hv : Hid (startB c = true) := by show _ = _; unfold startB; simp; omega
    clear h13
    go_wp2_with fail
    refine (has_any 65008 65533 _ _ true H13).mono ?_; rintro e w14 ⟨rfl, hb14⟩
    have hz14 := hb14.size
    simp only [World.size_alloc] at hz14
    go_wp2_with fail
    go_ret
    exact ⟨by rw [hv.out]; rfl, ((((((((((((((((((((((((((((((((((((((((((hb0).alloc (by omega) _).trans (hb1.mono (by first | omega | (simp; done) | (simp; omega))))).alloc (by omega) _).trans (hb2.mono (by first | omega | (simp; done) | (simp; omega))))).alloc (by omega) _).trans (hb3.mono (by first | omega | (simp; done) | (simp; omega))))).alloc (by omega) _).trans (hb4.mono (by first | omega | (simp; done) | (simp; omega))))).alloc (by omega) _).trans (hb5.mono (by first | omega | (simp; done) | (simp; omega))))).alloc (by omega) _).trans (hb6.mono (by first | omega | (simp; done) | (simp; omega))))).alloc (by omega) _).trans (hb7.mono (by first | omega | (simp; done) | (simp; omega))))).alloc (by omega) _).trans (hb8.mono (by first | omega | (simp; done) | (simp; omega))))).alloc (by omega) _).trans (hb9.mono (by first | omega | (simp; done) | (simp; omega))))).alloc (by omega) _).trans (hb10.mono (by first | omega | (simp; done) | (simp; omega))))).alloc (by omega) _).trans (hb11.mono (by first | omega | (simp; done) | (simp; omega))))).alloc (by omega) _).trans (hb12.mono (by first | omega | (simp; done) | (simp; omega))))).alloc (by omega) _).trans (hb13.mono (by first | omega | (simp; done) | (simp; omega))))).alloc (by omega) _).trans (hb14.mono (by first | omega | (simp; done) | (simp; omega))))⟩
  have H13 : Hid ((decide ((65008 : Int) ≤ c) && decide (c ≤ 65533)) = false) := by show _ = _; simp; omega
  go_wp2_with fail
  refine (has_any 65008 65533 _ _ false H13).mono ?_; rintro e w14 ⟨rfl, hb14⟩
  have hz14 := hb14.size
  simp only [World.size_alloc] at hz14
  go_wp2_with fail
  rw [rounds_succ]
  by_cases h14 : 65536 ≤ c ∧ c ≤ 983039
  · have H14 : Hid ((decide ((65536 : Int) ≤ c) && decide (c ≤ 983039)) = true) := by show _ = _; simp [h14]
    have hv : Hid (startB c = true) := by show _ = _; unfold startB; simp; omega
    clear h14
    go_wp2_with fail
    refine (has_any 65536 983039 _ _ true H14).mono ?_; rintro e w15 ⟨rfl, hb15⟩
    have hz15 := hb15.size
    simp only [World.size_alloc] at hz15
    go_wp2_with fail
    go_ret
    exact ⟨by rw [hv.out]; rfl, (((((((((((((((((((((((((((((((((((((((((((((hb0).alloc (by omega) _).trans (hb1.mono (by first | omega | (simp; done) | (simp; omega))))).alloc (by omega) _).trans (hb2.mono (by first | omega | (simp; done) | (simp; omega))))).alloc (by omega) _).trans (hb3.mono (by first | omega | (simp; done) | (simp; omega))))).alloc (by omega) _).trans (hb4.mono (by first | omega | (simp; done) | (simp; omega))))).alloc (by omega) _).trans (hb5.mono (by first | omega | (simp; done) | (simp; omega))))).alloc (by omega) _).trans (hb6.mono (by first | omega | (simp; done) | (simp; omega))))).alloc (by omega) _).trans (hb7.mono (by first | omega | (simp; done) | (simp; omega))))).alloc (by omega) _).trans (hb8.mono (by first | omega | (simp; done) | (simp; omega))))).alloc (by omega) _).trans (hb9.mono (by first | omega | (simp; done) | (simp; omega))))).alloc (by omega) _).trans (hb10.mono (by first | omega | (simp; done) | (simp; omega))))).alloc (by omega) _).trans (hb11.mono (by first | omega | (simp; done) | (simp; omega))))).alloc (by omega) _).trans (hb12.mono (by first | omega | (simp; done) | (simp; omega))))).alloc (by omega) _).trans (hb13.mono (by first | omega | (simp; done) | (simp; omega))))).alloc (by omega) _).trans (hb14.mono (by first | omega | (simp; done) | (simp; omega))))).alloc (by omega) _).trans (hb15.mono (by first | omega | (simp; done) | (simp; omega))))⟩
  have H14 : Hid ((decide ((65536 : Int) ≤ c) && decide (c ≤ 983039)) = false) := by show _ = _; simp; omega
  go_wp2_with fail
  refine (has_any 65536 983039 _ _ false H14).mono ?_; rintro e w15 ⟨rfl, hb15⟩
  have hz15 := hb15.size
  simp only [World.size_alloc] at hz15
  go_wp2_with fail
  rw [rounds_succ]
  have hv : Hid (startB c = false) := by show _ = _; unfold startB; simp; omega
  clear h0 h1 h2 h3 h4 h5 h6 h7 h8 h9 h10 h11 h12 h13 h14
  go_wp2_with fail
  go_ret
  exact ⟨by rw [hv.out]; rfl, (((((((((((((((((((((((((((((((((((((((((((((hb0).alloc (by omega) _).trans (hb1.mono (by first | omega | (simp; done) | (simp; omega))))).alloc (by omega) _).trans (hb2.mono (by first | omega | (simp; done) | (simp; omega))))).alloc (by omega) _).trans (hb3.mono (by first | omega | (simp; done) | (simp; omega))))).alloc (by omega) _).trans (hb4.mono (by first | omega | (simp; done) | (simp; omega))))).alloc (by omega) _).trans (hb5.mono (by first | omega | (simp; done) | (simp; omega))))).alloc (by omega) _).trans (hb6.mono (by first | omega | (simp; done) | (simp; omega))))).alloc (by omega) _).trans (hb7.mono (by first | omega | (simp; done) | (simp; omega))))).alloc (by omega) _).trans (hb8.mono (by first | omega | (simp; done) | (simp; omega))))).alloc (by omega) _).trans (hb9.mono (by first | omega | (simp; done) | (simp; omega))))).alloc (by omega) _).trans (hb10.mono (by first | omega | (simp; done) | (simp; omega))))).alloc (by omega) _).trans (hb11.mono (by first | omega | (simp; done) | (simp; omega))))).alloc (by omega) _).trans (hb12.mono (by first | omega | (simp; done) | (simp; omega))))).alloc (by omega) _).trans (hb13.mono (by first | omega | (simp; done) | (simp; omega))))).alloc (by omega) _).trans (hb14.mono (by first | omega | (simp; done) | (simp; omega))))).alloc (by omega) _).trans (hb15.mono (by first | omega | (simp; done) | (simp; omega))))⟩
end Go.Proofs.Ythifddkmbjnncaa

/-
  The walk of glyph.Part.
-/
namespace Go.Proofs.Ythifddkmbjnncaa
open Go.RowKit


set_option maxRecDepth 100000 in
set_option maxHeartbeats 4000000 in
theorem Part_any (c : Int) (w : World) :
    Calls Try.prog 46 #[.int .i32 c] w (Ret w (.bool (partB c))) := by
  have q0 := pt_0
  have q1 := pt_1
  have q2 := pt_2
  have q3 := pt_3
  have q4 := pt_4
  have ht : (#[Value.int .i32 45, Value.int .i32 46, Value.int .i32 48, Value.int .i32 57, Value.int .i32 183, Value.int .i32 183, Value.int .i32 768, Value.int .i32 879, Value.int .i32 8255, Value.int .i32 8256] : Array Value) = partsTab := rfl
  go_enter Try.func46, Try.ntmps46
  go_wp2_with fail
  refine wp_loop_rounds 6 ?_
  rw [rounds_succ]
  by_cases h0 : 45 ≤ c ∧ c ≤ 46
  · have H0 : Hid ((decide ((45 : Int) ≤ c) && decide (c ≤ 46)) = true) := by show _ = _; simp [h0]
    have hv : Hid (partB c = true) := by show _ = _; unfold partB; simp; right; omega
    clear h0
    go_wp2_with fail
    refine (has_any 45 46 _ _ true H0).mono ?_; rintro e w1 ⟨rfl, hb1⟩
    have hz1 := hb1.size
    simp only [World.size_alloc] at hz1
    go_wp2_with fail
    go_ret
    exact ⟨by rw [hv.out]; rfl, ((((Below.refl w.heap.size w)).alloc (by omega) _).trans (hb1.mono (by first | omega | (simp; done) | (simp; omega))))⟩
  have H0 : Hid ((decide ((45 : Int) ≤ c) && decide (c ≤ 46)) = false) := by show _ = _; simp; omega
  go_wp2_with fail
  refine (has_any 45 46 _ _ false H0).mono ?_; rintro e w1 ⟨rfl, hb1⟩
  have hz1 := hb1.size
  simp only [World.size_alloc] at hz1
  go_wp2_with fail
  rw [rounds_succ]
  by_cases h1 : 48 ≤ c ∧ c ≤ 57
  · have H1 : Hid ((decide ((48 : Int) ≤ c) && decide (c ≤ 57)) = true) := by show _ = _; simp [h1]
    have hv : Hid (partB c = true) := by show _ = _; unfold partB; simp; right; omega
    clear h1
    go_wp2_with fail
    refine (has_any 48 57 _ _ true H1).mono ?_; rintro e w2 ⟨rfl, hb2⟩
    have hz2 := hb2.size
    simp only [World.size_alloc] at hz2
    go_wp2_with fail
    go_ret
    exact ⟨by rw [hv.out]; rfl, (((((((Below.refl w.heap.size w)).alloc (by omega) _).trans (hb1.mono (by first | omega | (simp; done) | (simp; omega))))).alloc (by omega) _).trans (hb2.mono (by first | omega | (simp; done) | (simp; omega))))⟩
  have H1 : Hid ((decide ((48 : Int) ≤ c) && decide (c ≤ 57)) = false) := by show _ = _; simp; omega
  go_wp2_with fail
  refine (has_any 48 57 _ _ false H1).mono ?_; rintro e w2 ⟨rfl, hb2⟩
  have hz2 := hb2.size
  simp only [World.size_alloc] at hz2
  go_wp2_with fail
  rw [rounds_succ]
  by_cases h2 : 183 ≤ c ∧ c ≤ 183
  · have H2 : Hid ((decide ((183 : Int) ≤ c) && decide (c ≤ 183)) = true) := by show _ = _; simp [h2]
    have hv : Hid (partB c = true) := by show _ = _; unfold partB; simp; right; omega
    clear h2
    go_wp2_with fail
    refine (has_any 183 183 _ _ true H2).mono ?_; rintro e w3 ⟨rfl, hb3⟩
    have hz3 := hb3.size
    simp only [World.size_alloc] at hz3
    go_wp2_with fail
    go_ret
    exact ⟨by rw [hv.out]; rfl, ((((((((((Below.refl w.heap.size w)).alloc (by omega) _).trans (hb1.mono (by first | omega | (simp; done) | (simp; omega))))).alloc (by omega) _).trans (hb2.mono (by first | omega | (simp; done) | (simp; omega))))).alloc (by omega) _).trans (hb3.mono (by first | omega | (simp; done) | (simp; omega))))⟩
  have H2 : Hid ((decide ((183 : Int) ≤ c) && decide (c ≤ 183)) = false) := by show _ = _; simp; omega
  go_wp2_with fail
  refine (has_any 183 183 _ _ false H2).mono ?_; rintro e w3 ⟨rfl, hb3⟩
  have hz3 := hb3.size
  simp only [World.size_alloc] at hz3
  go_wp2_with fail
  rw [rounds_succ]
  by_cases h3 : 768 ≤ c ∧ c ≤ 879
  · have H3 : Hid ((decide ((768 : Int) ≤ c) && decide (c ≤ 879)) = true) := by show _ = _; simp [h3]
    have hv : Hid (partB c = true) := by show _ = _; unfold partB; simp; right; omega
    clear h3
    go_wp2_with fail
    refine (has_any 768 879 _ _ true H3).mono ?_; rintro e w4 ⟨rfl, hb4⟩
    have hz4 := hb4.size
    simp only [World.size_alloc] at hz4
    go_wp2_with fail
    go_ret
    exact ⟨by rw [hv.out]; rfl, (((((((((((((Below.refl w.heap.size w)).alloc (by omega) _).trans (hb1.mono (by first | omega | (simp; done) | (simp; omega))))).alloc (by omega) _).trans (hb2.mono (by first | omega | (simp; done) | (simp; omega))))).alloc (by omega) _).trans (hb3.mono (by first | omega | (simp; done) | (simp; omega))))).alloc (by omega) _).trans (hb4.mono (by first | omega | (simp; done) | (simp; omega))))⟩
  have H3 : Hid ((decide ((768 : Int) ≤ c) && decide (c ≤ 879)) = false) := by show _ = _; simp; omega
  go_wp2_with fail
  refine (has_any 768 879 _ _ false H3).mono ?_; rintro e w4 ⟨rfl, hb4⟩
  have hz4 := hb4.size
  simp only [World.size_alloc] at hz4
  go_wp2_with fail
  rw [rounds_succ]
  by_cases h4 : 8255 ≤ c ∧ c ≤ 8256
  · have H4 : Hid ((decide ((8255 : Int) ≤ c) && decide (c ≤ 8256)) = true) := by show _ = _; simp [h4]
    have hv : Hid (partB c = true) := by show _ = _; unfold partB; simp; right; omega
    clear h4
    go_wp2_with fail
    refine (has_any 8255 8256 _ _ true H4).mono ?_; rintro e w5 ⟨rfl, hb5⟩
    have hz5 := hb5.size
    simp only [World.size_alloc] at hz5
    go_wp2_with fail
    go_ret
    exact ⟨by rw [hv.out]; rfl, ((((((((((((((((Below.refl w.heap.size w)).alloc (by omega) _).trans (hb1.mono (by first | omega | (simp; done) | (simp; omega))))).alloc (by omega) _).trans (hb2.mono (by first | omega | (simp; done) | (simp; omega))))).alloc (by omega) _).trans (hb3.mono (by first | omega | (simp; done) | (simp; omega))))).alloc (by omega) _).trans (hb4.mono (by first | omega | (simp; done) | (simp; omega))))).alloc (by omega) _).trans (hb5.mono (by first | omega | (simp; done) | (simp; omega))))⟩
  have H4 : Hid ((decide ((8255 : Int) ≤ c) && decide (c ≤ 8256)) = false) := by show _ = _; simp; omega
  go_wp2_with fail
  refine (has_any 8255 8256 _ _ false H4).mono ?_; rintro e w5 ⟨rfl, hb5⟩
  have hz5 := hb5.size
  simp only [World.size_alloc] at hz5
  go_wp2_with fail
  rw [rounds_succ]
  have hv : Hid (partB c = startB c) := by show _ = _; unfold partB; rw [Bool.or_eq_left_iff_imp]; simp; omega
  clear h0 h1 h2 h3 h4
  go_wp2_with fail
  refine (Start_any _ _).mono ?_; rintro e w9 ⟨rfl, hb9⟩
  have hz9 := hb9.size
  go_wp2_with fail
  go_ret
  exact ⟨by rw [hv.out]; rfl, (((((((((((((((((Below.refl w.heap.size w)).alloc (by omega) _).trans (hb1.mono (by first | omega | (simp; done) | (simp; omega))))).alloc (by omega) _).trans (hb2.mono (by first | omega | (simp; done) | (simp; omega))))).alloc (by omega) _).trans (hb3.mono (by first | omega | (simp; done) | (simp; omega))))).alloc (by omega) _).trans (hb4.mono (by first | omega | (simp; done) | (simp; omega))))).alloc (by omega) _).trans (hb5.mono (by first | omega | (simp; done) | (simp; omega))))).trans (hb9.mono (by omega))⟩
end Go.Proofs.Ythifddkmbjnncaa
