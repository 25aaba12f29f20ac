/-
  Small laws over any program, for the walks of this seat: a slice of the call's own that grows by one element; bytes made into a string.
-/
import Derived.WalkKit
import Derived.WalkSpells
import Derived.WalkLawsBesides
import Derived.Lib.Hide
import Derived.Lib.UnsafeStr
import Derived.Lib.ConvBytes
import Derived.Lib.Builder
import Derived.Lib.BufferWrite
namespace Go.Proofs.Ythifddkmbjnncaa
open Go.RowKit

/-- What a pure function leaves: an ending, and all that was there as it was. -/
def Ret (w : World) (v : Value) (e : Ending) (w' : World) : Prop := e = .returned v ∧ Below w.heap.size w w'

/-! Endings: their numbers apart. -/
theorem ret_int {k : IntKind} {a b : Int} (h : a = b) : Ending.returned (.int k a) = .returned (.int k b) := by rw [h]
theorem ret_bool {a b : Bool} (h : a = b) : Ending.returned (.bool a) = .returned (.bool b) := by rw [h]
theorem ret_ii {k j : IntKind} {a b a' b' : Int} (ha : a = a') (hb : b = b') : Ending.returned (.tuple #[.int k a, .int j b]) = .returned (.tuple #[.int k a', .int j b']) := by rw [ha, hb]
theorem ret_str {a b : List UInt8} (h : a = b) : Ending.returned (.string ⟨a.toArray⟩) = .returned (.string ⟨b.toArray⟩) := by rw [h]
theorem ret_sb {a b : ByteArray} {c d : Bool} (h : a = b) (h' : c = d) : Ending.returned (.tuple #[.string a, .bool c]) = .returned (.tuple #[.string b, .bool d]) := by rw [h, h']
theorem ret_sii {k j : IntKind} {a b : ByteArray} {c d c' d' : Int} (h : a = b) (h' : c = c') (h'' : d = d') : Ending.returned (.tuple #[.string a, .int k c, .int j d]) = .returned (.tuple #[.string b, .int k c', .int j d']) := by rw [h, h', h'']

theorem below_size {B : Nat} {w w' : World} (h : Below B w w') : w.heap.size ≤ w'.heap.size := h.size

theorem bcell {W w1 : World} (hb : Below W.heap.size W w1) : (∀ b o, b < W.heap.size → w1.cell? ⟨b, o, none⟩ = W.cell? ⟨b, o, none⟩) ∧ (∀ b o, b < W.heap.size → w1.frozen? ⟨b, o, none⟩ = W.frozen? ⟨b, o, none⟩) :=
  ⟨fun b o h => hb.cell (p := ⟨b, o, none⟩) h, fun b o h => hb.frozen (p := ⟨b, o, none⟩) h⟩

/-- A literal of one element is owned. -/
theorem own_lit (w : World) (e : TypeId) (u : Value) (B : Nat) (hB : B ≤ w.heap.size) : (w.alloc (.cells #[u] e)).ownsRow B e 1 (.slice (some ⟨w.heap.size, 0, none⟩) 1 1) 1 [u] :=
  ⟨by simp, .inr ⟨w.heap.size, 1, #[u], rfl, hB, heap_alloc_new w _, Nat.le_refl _, by decide, by simp, by simp⟩⟩

/-- What is owned stays owned while what lies below a number stands. -/
theorem own_below {w w' : World} {B : Nat} {e : TypeId} {size : Nat} {v : Value} {n : Nat} {xs : List Value} (h : w.ownsRow B e size v n xs) (hb : Below w.heap.size w w') : w'.ownsRow B e size v n xs := by
  refine ⟨h.1, ?_⟩
  rcases h.2 with hn | ⟨g, cap, cur, rfl, h1, h2, rest⟩
  · exact .inl hn
  · refine .inr ⟨g, cap, cur, rfl, h1, ?_, rest⟩
    rw [hb.block g (Array.getElem?_eq_some_iff.1 h2).1]
    exact h2

/-- append(b, x), x one cell, to a slice that is the call's own. -/
theorem append1 {P : Program} {w : World} {ops : Array Oper} {rest : List Oper} {o : Oper} {a : Act} {Q : Exit → Act → World → Prop} (hgd : o.guard = none) (s x : Operand) (t : TypeId)
    (ho : o.op = .call { callee := .builtin .append, args := #[s, x], argTypes := #[t, t] })
    (B : Nat) (e : TypeId) (z : Value) (bytes : Nat) (ht : P.underlying t = some (.slice e)) (hi : (P.info? e).map (fun i => (i.zero, i.size, i.bytes)) = some (some z, 1, bytes))
    (hzs : z.cells.size = 1)
    (v : Value) (n : Nat) (xs : List Value) (u : Value) (hs : a.eval s = v) (hown : w.ownsRow B e 1 v n xs) (hB : B ≤ w.heap.size)
    (X : Nat) (hx : a.eval x = .slice (some ⟨X, 0, none⟩) 1 1) (hX : X = w.heap.size) (hu : u.oneCell' = true) (hn : n < 4294967296) (hby : bytes ≤ 1000)
    (h : ∀ g c w', w'.ownsRow B e 1 (.slice (some ⟨g, 0, none⟩) (n + 1) c) (n + 1) (xs ++ [u]) → Below B w w' → w.heap.size < w'.heap.size → wpList P ops Q rest (a.put o.dst (.slice (some ⟨g, 0, none⟩) (n + 1) c)) w') :
    wpList P ops Q (o :: rest) a (w.alloc (.cells #[u] e)) := by
  subst hX
  obtain ⟨i0, hi0, hz0, hz1, hz2⟩ := info_parts hi
  refine wpList_append_own _ hgd s x t ho B e i0 z 1 bytes ht hi0 hz0 hz1 hz2 hzs (by decide) v n xs hs (hown.alloc _) ⟨w.heap.size, 0, none⟩ 1 1 [u] hx rfl (cell_one_new _ _ _) (by intro y hy; simp at hy; subst hy; exact hu)
    (by unfold maxLen; omega) ?_ (by simp; omega) ?_
  · have : (n + 1) * bytes ≤ 4294967296 * 1000 := Nat.mul_le_mul (by omega) hby
    omega
  · intro v' w' hown' hg _
    obtain ⟨g, c, rfl⟩ : ∃ g c, v' = .slice (some ⟨g, 0, none⟩) (n + 1) c := by
      rcases hown'.2 with ⟨_, h0⟩ | ⟨g, c, cur, hv, _⟩
      · omega
      · exact ⟨g, c, hv⟩
    refine h g c w' hown' (((Below.refl B w).alloc hB _).grown hg (by simp; omega) (fun k hk => (hown.lt k hk).1)) ?_
    have := hg.size
    simp at this
    omega

theorem foldl_push (l : List UInt8) : ∀ r : ByteArray, (l.map (fun b => (b.toNat : Int))).foldl (fun r n => r.push (UInt8.ofNat n.toNat)) r = ⟨r.data ++ l.toArray⟩ := by
  induction l with
  | nil => intro r; simp
  | cons b l ih =>
    intro r
    simp only [List.map_cons, List.foldl_cons]
    rw [ih]
    simp [ByteArray.push]

/-- string(b) of a slice that is the call's own. -/
theorem run_string_own {P : Program} {w : World} {src dst e : TypeId} {B : Nat} {g c n : Nat} {l : List UInt8} (hown : w.ownsRow B e 1 (.slice (some ⟨g, 0, none⟩) n c) n (Lib.byteCells l))
    (hs : P.underlying src = some (.slice e)) (he : P.underlying e = some (.int .u8)) (hd : P.underlying dst = some .string) :
    (convert src dst (.slice (some ⟨g, 0, none⟩) n c)).run P w = .ok (.string ⟨l.toArray⟩) w := by
  have hl : l.length = n := by have := hown.1; simpa [Lib.byteCells_length] using this
  rw [run_convert_bytes_string w src dst e _ _ _ hs he hd]
  have hc : (loadCells ⟨g, 0, none⟩ n).run P w = .ok ((l.map (fun b => (b.toNat : Int))).map (Value.int .u8)).toArray w := by
    have := run_loadCells_list (P := P) (w := w) ⟨g, 0, none⟩ (Lib.byteCells l) (fun j u hu => hown.cells (g := g) rfl j u hu)
    rw [Lib.byteCells_length, hl] at this
    rw [this]
    simp [Lib.byteCells, List.map_map, Function.comp_def]
  rw [run_bytesToString w ⟨g, 0, none⟩ n c _ hc, foldl_push]
  have he : (ByteArray.empty).data = #[] := rfl
  rw [he]
  simp

/-- string([]byte{..}). -/
theorem run_string_lit {P : Program} {src dst e : TypeId} (l : List UInt8) (cur : Array Value) (hc : cur.toList = Lib.byteCells l) (hm : l.length ≤ maxLen)
    (hs : P.underlying src = some (.slice e)) (he : P.underlying e = some (.int .u8)) (hd : P.underlying dst = some .string) (w : World) :
    (convert src dst (.slice (some ⟨w.heap.size, 0, none⟩) l.length l.length)).run P (w.alloc (.cells cur e)) = .ok (.string ⟨l.toArray⟩) (w.alloc (.cells cur e)) := by
  have hsz : cur.size = l.length := by rw [← Array.length_toList, hc, Lib.byteCells_length]
  refine run_string_own (B := w.heap.size) (l := l) ⟨by simp [Lib.byteCells_length], .inr ⟨w.heap.size, l.length, cur, rfl, Nat.le_refl _, heap_alloc_new w _, Nat.le_refl _, hm, by simp [hsz], ?_⟩⟩ hs he hd
  rw [hc, List.take_of_length_le (by simp [Lib.byteCells_length])]

/-- []byte(t): a new row that holds t's bytes. -/
theorem run_bytes_of {P : Program} (w : World) (src dst e : TypeId) (t : ByteArray) (n : Nat) (l : List UInt8) (hn : t.size = n) (hl : t.data.toList = l) {u : TypeDesc}
    (hs : P.underlying src = some u) (hd : P.underlying dst = some (.slice e)) (he : P.underlying e = some (.int .u8)) :
    ∃ cap w1, (convert src dst (.string t)).run P w = .ok (.slice (some ⟨w.heap.size, 0, none⟩) n cap) w1 ∧ Below w.heap.size w w1 ∧ w1.heap.size = w.heap.size + 1 ∧
      ∀ j (h : j < l.length), w1.cell? ⟨w.heap.size, j, none⟩ = some (.int .u8 l[j].toNat) := by
  subst hl
  subst hn
  refine ⟨_, _, Lib.run_convert_string_bytes w src dst e t hs hd he, ⟨rfl, rfl, rfl, ?_, fun k hk => Lib.bytesWorld_at_old w e t k hk⟩, Lib.bytesWorld_size w e t, fun j h => ?_⟩
  · rw [Lib.bytesWorld_size]; omega
  · rw [Lib.bytesWorld_cell w e t j (by simpa using h)]
    simp [List.getD, List.getElem?_eq_getElem h]

/-- A string in a slot. -/
def strOf : Value → ByteArray
  | .string s => s
  | _ => ByteArray.empty

theorem builder_below {T e : TypeId} {B b : Nat} {bs : List Value} {w w' : World} (h : Lib.IsBuilder T e B b bs w) (hb : Below w.heap.size w w') : Lib.IsBuilder T e B b bs w' := by
  have key : ∀ p, Lib.BuilderAt T e B b p bs w → Lib.BuilderAt T e B b p bs w' := fun p h => by
    obtain ⟨h1, v, h2, h3, h4⟩ := h
    exact ⟨h1, v, by rw [hb.block b (Array.getElem?_eq_some_iff.1 h2).1]; exact h2, own_below h3 hb, h4⟩
  rcases h with h | h
  · exact .inl (key _ h)
  · exact .inr (key _ h)

/-- A builder that has just been made. -/
theorem builder_new (T e : TypeId) (w : World) : Lib.IsBuilder T e w.heap.size w.heap.size [] (w.alloc (.cells #[.pointer none, .slice none 0 0] T)) :=
  .inl ⟨Nat.le_refl _, .slice none 0 0, heap_alloc_new w _, World.ownsRow_nil _ _ _ _, by simp [Value.ownBlock]⟩

/-- The shape of a slice that is the call's own. -/
theorem own_shape {w : World} {B : Nat} {e : TypeId} {size : Nat} {ad : Option Addr} {n c : Nat} {xs : List Value} (h : w.ownsRow B e size (.slice ad n c) n xs) : (ad = none ∧ n = 0 ∧ c = 0) ∨ ∃ g, ad = some ⟨g, 0, none⟩ ∧ B ≤ g ∧ g < w.heap.size := by
  rcases h.2 with ⟨h1, h2⟩ | ⟨g, cap, cur, h1, h2, h3, _⟩
  · injection h1 with h1 _ h3; exact .inl ⟨h1, h2, h3⟩
  · injection h1 with h1; exact .inr ⟨g, h1, h2, (Array.getElem?_eq_some_iff.1 h3).1⟩

/-- A cell of a slice that is the call's own. -/
theorem own_cell {w : World} {B : Nat} {e : TypeId} {size : Nat} {g n c : Nat} {xs : List Value} (h : w.ownsRow B e size (.slice (some ⟨g, 0, none⟩) n c) n xs) (j : Nat) (u : Value) (hu : xs[j]? = some u) : w.cell? ⟨g, j, none⟩ = some u := by
  have := h.cells (g := g) rfl j u hu
  have e : (⟨g, 0, none⟩ : Addr).add j = ⟨g, j, none⟩ := by unfold Addr.add; split <;> simp_all
  rwa [e] at this

theorem str_app (a b : List UInt8) : (⟨a.toArray⟩ : ByteArray) ++ ⟨b.toArray⟩ = ⟨(a ++ b).toArray⟩ := by
  apply ByteArray.ext
  simp
end Go.Proofs.Ythifddkmbjnncaa
