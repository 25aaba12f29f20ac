/-
  Texts of this claim, joined (by a program of the claim's author): Tk, ShelfI, Kit, Plain, Laid, Next, EscPlain, Shelf, Esc, ShelfP, RPut, RNext, UndoPlain.
-/
import Derived.Deep.RegionHeld3
import Derived.Maps.RangeWalk
import Derived.Shelf.Small.Strs
import Derived.Test.YthifddkmbjnncaaProg
import Derived.WalkKit
import Derived.WalkSpells
import Derived.WalkLawsBesides
import Derived.Lib.Hide
import Derived.Lib.UnsafeStr
import Derived.Lib.ConvBytes
import Derived.Lib.Builder
import Derived.Lib.BufferWrite
import Derived.Test.YthifddkmbjnncaaRows
import Derived.Lib.Strings
import Derived.Lib.IndexBytes
import Derived.Shelf.Strings.Builder1
import Derived.Shelf.Strings.BuilderF
import Derived.Shelf.Strings.BuilderK
import Derived.Outline
import Derived.Shelf.Strings.Prefix
namespace Go.Proofs.Ythifddkmbjnncaa
set_option maxRecDepth 100000
set_option maxHeartbeats 16000000
section
theorem tk {P : Program} {md : Region.Mode} {ops : Array Oper} {Q : Exit → Act → World → Prop} {S : World → Prop} {fuel : Nat} {listed : Array Bool} {a : Act} {w : World} {oi : Oper} {v : Value} (i : Nat) (hi : ops[i]? = some oi)
  (hb : (Region.noSelect ops && Region.free md ops listed i && (Region.ready md ops listed).contains i) = true) (hQ : ∀ c a w, Q (.panic c) (a.put oi.dst v) w → Q (.panic c) a w) (hy : YieldsIf P ops S oi v a) (hS : S w)
  (h : wpAnyH P md ops Q S fuel (listed.setIfInBounds i true) (a.put oi.dst v) w) : wpAnyH P md ops Q S (fuel + 1) listed a w := by
 simp only [Bool.and_eq_true] at hb
 exact wpAnyH_take hi hb.1.1 hb.1.2 hb.2 hQ hy hS h
theorem tkv {P : Program} {md : Region.Mode} {ops : Array Oper} {Q : Exit → Act → World → Prop} {S : World → Prop} {fuel : Nat} {listed : Array Bool} {a a' : Act} {w : World} {d : Option Tmp} {o : Op} {t : TypeId} {p : String} {e : Array Edge} {g : Option (Nat × Bool)} {v : Value} (i : Nat) (hi : ops[i]? = some ⟨d, o, t, p, e, g⟩ := by rfl)
  (hy : YieldsIf P ops S ⟨d, o, t, p, e, g⟩ v a := by refine .inl ⟨by rfl, ?_⟩; (intro wS hSw; (try dsimp only at hSw); go_simp); all_goals with_reducible rfl)
  (hb : (Region.noSelect ops && Region.free md ops listed i && (Region.ready md ops listed).contains i) = true := by kernel_rfl) (hQ : ∀ c a w, Q (.panic c) (a.put d v) w → Q (.panic c) a w := by exact fun _ _ _ h => h) (hS : S w := by assumption) (ha : a.put d v = a' := by (try go_frame); rfl) (h : wpAnyH P md ops Q S fuel (listed.setIfInBounds i true) a' w) : wpAnyH P md ops Q S (fuel + 1) listed a w :=
 tk i hi hb hQ hy hS (ha ▸ h)
theorem tkn {P : Program} {md : Region.Mode} {ops : Array Oper} {Q : Exit → Act → World → Prop} {S : World → Prop} {fuel : Nat} {listed : Array Bool} {a a' : Act} {w : World} {d : Option Tmp} {o : Op} {t : TypeId} {p : String} {e : Array Edge} {g : Option (Nat × Bool)} (i : Nat) (hi : ops[i]? = some ⟨d, o, t, p, e, g⟩ := by rfl)
  (hy : YieldsIf P ops S ⟨d, o, t, p, e, g⟩ undef a := by exact .inr ⟨by rfl, rfl⟩)
  (hb : (Region.noSelect ops && Region.free md ops listed i && (Region.ready md ops listed).contains i) = true := by kernel_rfl) (hQ : ∀ c a w, Q (.panic c) (a.put d undef) w → Q (.panic c) a w := by exact fun _ _ _ h => h) (hS : S w := by assumption) (ha : a.put d undef = a' := by (try go_frame); rfl) (h : wpAnyH P md ops Q S fuel (listed.setIfInBounds i true) a' w) : wpAnyH P md ops Q S (fuel + 1) listed a w :=
 tk i hi hb hQ hy hS (ha ▸ h)
theorem rdy {P : Program} {md : Region.Mode} {ops : Array Oper} {Q : Exit → Act → World → Prop} {S : World → Prop} {fuel : Nat} {listed : Array Bool} {a : Act} {w : World} {d : Option Tmp} {o : Op} {t : TypeId} {p : String} {e : Array Edge} {g : Option (Nat × Bool)} (i : Nat)
  (h : ∀ K' : Act → World → Prop, Shut (∀ a w, S w → (S w → wpAnyH P md ops Q S fuel (listed.setIfInBounds i true) a w) → K' a w) → if Region.wanted ⟨d, o, t, p, e, g⟩ (yielded ops a.tmps) = true then Oper.wp P ⟨d, o, t, p, e, g⟩ a w K' Q else K' (a.put d undef) w)
  (hr : Region.ready md ops listed = [i] := by kernel_rfl) (hi : ops[i]? = some ⟨d, o, t, p, e, g⟩ := by rfl) : wpAnyH P md ops Q S (fuel + 1) listed a w :=
 wpAnyH_ready hr (by simp) (AllReadyH.cons hi h AllReadyH.nil)
end
end Go.Proofs.Ythifddkmbjnncaa
namespace Go.Proofs
open Go.Shelf Go.RowKit
def Try.lays137_ren : Go.Shelf.Ren := ⟨fun | 137 => 66 | 217 => 95 | 266 => 115 | n => n, fun | 3 => 3 | 5 => 5 | 9 => 9 | n => n, fun | n => n⟩
theorem Try.lays137 : Go.Proofs.Lays.n137 Try.prog Try.lays137_ren := {
 mixed := by kernel_rfl
 f137 := Try.func66.trans (congrArg some (by kernel_rfl))
 f217 := Try.func95.trans (congrArg some (by kernel_rfl))
 f266 := Try.func115.trans (congrArg some (by kernel_rfl))
 t3 := Try.underlying3
 a3 := Try.isAgg3
 z3 := Try.sizeOf3
 v3 := Try.zeroValue3
 t5 := Try.underlying5
 a5 := Try.isAgg5
 z5 := Try.sizeOf5
 v5 := Try.zeroValue5
 t9 := Try.underlying9
 a9 := Try.isAgg9
 z9 := Try.sizeOf9
 v9 := Try.zeroValue9 }
theorem Try.strings_IndexByte (s : ByteArray) (c : Int) (w : World) :
  Calls Try.prog 66 #[.string s, .int .u8 c] w fun e w' => e = .returned (.int .i64 (Lib.indexByte s.data.toList c.toNat.toUInt8)) ∧ w' = w := Any.strings_IndexByte Try.lays137 s c w
def Try.lays106_ren : Go.Shelf.Ren := ⟨fun | 106 => 76 | 213 => 101 | 265 => 129 | n => n, fun | 3 => 3 | 9 => 9 | n => n, fun | n => n⟩
theorem Try.lays106 : Go.Proofs.Lays.n106 Try.prog Try.lays106_ren := {
 mixed := by kernel_rfl
 f106 := Try.func76.trans (congrArg some (by kernel_rfl))
 f213 := Try.func101.trans (congrArg some (by kernel_rfl))
 f265 := Try.func129.trans (congrArg some (by kernel_rfl))
 t3 := Try.underlying3
 a3 := Try.isAgg3
 z3 := Try.sizeOf3
 v3 := Try.zeroValue3
 t9 := Try.underlying9
 a9 := Try.isAgg9
 z9 := Try.sizeOf9
 v9 := Try.zeroValue9 }
theorem Try.strings_Compare (a b : ByteArray) (w : World) :
  Calls Try.prog 76 #[.string a, .string b] w fun e w' => e = .returned (.int .i64 (Lib.compareBytes a.data.toList b.data.toList)) ∧ w' = w := Any.strings_Compare Try.lays106 a b w
end Go.Proofs
namespace Go.Proofs.Ythifddkmbjnncaa
set_option maxRecDepth 100000
set_option maxHeartbeats 16000000
section
open Go.RowKit
def Ret (w : World) (v : Value) (e : Ending) (w' : World) : Prop := e = .returned v ∧ Below w.heap.size w w'
/-! Endings: their numbers apart. -/
theorem ret_int {k : IntKind} {a b : Int} (h : a = b) : Ending.returned (.int k a) = .returned (.int k b) := by rw [h]
theorem ret_bool {a b : Bool} (h : a = b) : Ending.returned (.bool a) = .returned (.bool b) := by rw [h]
theorem ret_ii {k j : IntKind} {a b a' b' : Int} (ha : a = a') (hb : b = b') : Ending.returned (.tuple #[.int k a, .int j b]) = .returned (.tuple #[.int k a', .int j b']) := by rw [ha, hb]
theorem own_lit (w : World) (e : TypeId) (u : Value) (B : Nat) (hB : B ≤ w.heap.size) : (w.alloc (.cells #[u] e)).ownsRow B e 1 (.slice (some ⟨w.heap.size, 0, none⟩) 1 1) 1 [u] :=
 ⟨by simp, .inr ⟨w.heap.size, 1, #[u], rfl, hB, heap_alloc_new w _, Nat.le_refl _, by decide, by simp, by simp⟩⟩
theorem own_below {w w' : World} {B : Nat} {e : TypeId} {size : Nat} {v : Value} {n : Nat} {xs : List Value} (h : w.ownsRow B e size v n xs) (hb : Below w.heap.size w w') : w'.ownsRow B e size v n xs := by
 refine ⟨h.1, ?_⟩
 rcases h.2 with hn | ⟨g, cap, cur, rfl, h1, h2, rest⟩
 ·exact .inl hn
 ·refine .inr ⟨g, cap, cur, rfl, h1, ?_, rest⟩
  rw [hb.block g (Array.getElem?_eq_some_iff.1 h2).1]
  exact h2
theorem append1 {P : Program} {w : World} {ops : Array Oper} {rest : List Oper} {o : Oper} {a : Act} {Q : Exit → Act → World → Prop} (hgd : o.guard = none) (s x : Operand) (t : TypeId)
  (ho : o.op = .call { callee := .builtin .append, args := #[s, x], argTypes := #[t, t] })
  (B : Nat) (e : TypeId) (z : Value) (bytes : Nat) (ht : P.underlying t = some (.slice e)) (hi : (P.info? e).map (fun i => (i.zero, i.size, i.bytes)) = some (some z, 1, bytes))
  (hzs : z.cells.size = 1)
  (v : Value) (n : Nat) (xs : List Value) (u : Value) (hs : a.eval s = v) (hown : w.ownsRow B e 1 v n xs) (hB : B ≤ w.heap.size)
  (X : Nat) (hx : a.eval x = .slice (some ⟨X, 0, none⟩) 1 1) (hX : X = w.heap.size) (hu : u.oneCell' = true) (hn : n < 4294967296) (hby : bytes ≤ 1000)
  (h : ∀ g c w', w'.ownsRow B e 1 (.slice (some ⟨g, 0, none⟩) (n + 1) c) (n + 1) (xs ++ [u]) → Below B w w' → w.heap.size < w'.heap.size → wpList P ops Q rest (a.put o.dst (.slice (some ⟨g, 0, none⟩) (n + 1) c)) w') :
  wpList P ops Q (o :: rest) a (w.alloc (.cells #[u] e)) := by
 subst hX
 obtain ⟨i0, hi0, hz0, hz1, hz2⟩ := info_parts hi
 refine wpList_append_own _ hgd s x t ho B e i0 z 1 bytes ht hi0 hz0 hz1 hz2 hzs (by decide) v n xs hs (hown.alloc _) ⟨w.heap.size, 0, none⟩ 1 1 [u] hx rfl (cell_one_new _ _ _) (by intro y hy; simp at hy; subst hy; exact hu)
  (by unfold maxLen; omega) ?_ (by simp; omega) ?_
 ·have : (n + 1) * bytes ≤ 4294967296 * 1000 := Nat.mul_le_mul (by omega) hby
  omega
 ·intro v' w' hown' hg _
  obtain ⟨g, c, rfl⟩ : ∃ g c, v' = .slice (some ⟨g, 0, none⟩) (n + 1) c := by
   rcases hown'.2 with ⟨_, h0⟩ | ⟨g, c, cur, hv, _⟩
   ·omega
   ·exact ⟨g, c, hv⟩
  refine h g c w' hown' (((Below.refl B w).alloc hB _).grown hg (by simp; omega) (fun k hk => (hown.lt k hk).1)) ?_
  have := hg.size
  simp at this
  omega
theorem foldl_push (l : List UInt8) : ∀ r : ByteArray, (l.map (fun b => (b.toNat : Int))).foldl (fun r n => r.push (UInt8.ofNat n.toNat)) r = ⟨r.data ++ l.toArray⟩ := by
 induction l with
 | nil => intro r; simp
 | cons b l ih =>
  intro r
  simp only [List.map_cons, List.foldl_cons]
  rw [ih]
  simp [ByteArray.push]
theorem run_string_own {P : Program} {w : World} {src dst e : TypeId} {B : Nat} {g c n : Nat} {l : List UInt8} (hown : w.ownsRow B e 1 (.slice (some ⟨g, 0, none⟩) n c) n (Lib.byteCells l))
  (hs : P.underlying src = some (.slice e)) (he : P.underlying e = some (.int .u8)) (hd : P.underlying dst = some .string) :
  (convert src dst (.slice (some ⟨g, 0, none⟩) n c)).run P w = .ok (.string ⟨l.toArray⟩) w := by
 have hl : l.length = n := by have := hown.1; simpa [Lib.byteCells_length] using this
 rw [run_convert_bytes_string w src dst e _ _ _ hs he hd]
 have hc : (loadCells ⟨g, 0, none⟩ n).run P w = .ok ((l.map (fun b => (b.toNat : Int))).map (Value.int .u8)).toArray w := by
  have := run_loadCells_list (P := P) (w := w) ⟨g, 0, none⟩ (Lib.byteCells l) (fun j u hu => hown.cells (g := g) rfl j u hu)
  rw [Lib.byteCells_length, hl] at this
  rw [this]
  simp [Lib.byteCells, List.map_map, Function.comp_def]
 rw [run_bytesToString w ⟨g, 0, none⟩ n c _ hc, foldl_push]
 have he : (ByteArray.empty).data = #[] := rfl
 rw [he]
 simp
theorem run_bytes_of {P : Program} (w : World) (src dst e : TypeId) (t : ByteArray) (n : Nat) (l : List UInt8) (hn : t.size = n) (hl : t.data.toList = l) {u : TypeDesc}
  (hs : P.underlying src = some u) (hd : P.underlying dst = some (.slice e)) (he : P.underlying e = some (.int .u8)) :
  ∃ cap w1, (convert src dst (.string t)).run P w = .ok (.slice (some ⟨w.heap.size, 0, none⟩) n cap) w1 ∧ Below w.heap.size w w1 ∧ w1.heap.size = w.heap.size + 1 ∧
   ∀ j (h : j < l.length), w1.cell? ⟨w.heap.size, j, none⟩ = some (.int .u8 l[j].toNat) := by
 subst hl
 subst hn
 refine ⟨_, _, Lib.run_convert_string_bytes w src dst e t hs hd he, ⟨rfl, rfl, rfl, ?_, fun k hk => Lib.bytesWorld_at_old w e t k hk⟩, Lib.bytesWorld_size w e t, fun j h => ?_⟩
 ·rw [Lib.bytesWorld_size]; omega
 ·rw [Lib.bytesWorld_cell w e t j (by simpa using h)]
  simp [List.getD, List.getElem?_eq_getElem h]
def strOf : Value → ByteArray
 | .string s => s
 | _ => ByteArray.empty
theorem builder_below {T e : TypeId} {B b : Nat} {bs : List Value} {w w' : World} (h : Lib.IsBuilder T e B b bs w) (hb : Below w.heap.size w w') : Lib.IsBuilder T e B b bs w' := by
 have key : ∀ p, Lib.BuilderAt T e B b p bs w → Lib.BuilderAt T e B b p bs w' := fun p h => by
  obtain ⟨h1, v, h2, h3, h4⟩ := h
  exact ⟨h1, v, by rw [hb.block b (Array.getElem?_eq_some_iff.1 h2).1]; exact h2, own_below h3 hb, h4⟩
 rcases h with h | h
 ·exact .inl (key _ h)
 ·exact .inr (key _ h)
theorem builder_new (T e : TypeId) (w : World) : Lib.IsBuilder T e w.heap.size w.heap.size [] (w.alloc (.cells #[.pointer none, .slice none 0 0] T)) :=
 .inl ⟨Nat.le_refl _, .slice none 0 0, heap_alloc_new w _, World.ownsRow_nil _ _ _ _, by simp [Value.ownBlock]⟩
end
section
def charB (c : Int) : Bool := decide (c = 9 ∨ c = 10 ∨ c = 13 ∨ (32 ≤ c ∧ c < 55296) ∨ (57344 ≤ c ∧ c < 65534) ∨ (65536 ≤ c ∧ c ≤ 1114111))
def bt (n : Int) : UInt8 := UInt8.ofNat n.toNat
theorem bt_toNat (n : Int) (h0 : 0 ≤ n) (h1 : n < 256) : ((bt n).toNat : Int) = n := by
 unfold bt
 rw [UInt8.toNat_ofNat']
 omega
def enc (c : Int) : List UInt8 :=
 if c < 128 then [bt c]
 else if c < 2048 then [bt (192 + c / 64), bt (128 + c % 64)]
 else if c < 65536 then [bt (224 + c / 4096), bt (128 + c / 64 % 64), bt (128 + c % 64)]
 else [bt (240 + c / 262144), bt (128 + c / 4096 % 64), bt (128 + c / 64 % 64), bt (128 + c % 64)]
def putF (c : Int) : List UInt8 := if charB c then enc c else []
def headN (x : Int) : Nat := if x < 128 then 1 else if x < 192 then 0 else if x < 224 then 2 else if x < 240 then 3 else if x < 248 then 4 else 0
def headC (x : Int) : Int := if x < 128 then x else if x < 192 then 0 else if x < 224 then x % 32 else if x < 240 then x % 16 else if x < 248 then x % 8 else 0
def contB (b : UInt8) : Bool := decide (128 ≤ (b.toNat : Int) ∧ (b.toNat : Int) < 192)
def foldC (c : Int) (m : List UInt8) : Int := m.foldl (fun c x => c * 64 + (x.toNat : Int) % 64) c
theorem foldC_snoc (c : Int) (m : List UInt8) (x : UInt8) : foldC c (m ++ [x]) = foldC c m * 64 + (x.toNat : Int) % 64 := by simp [foldC]
def nextL : List UInt8 → Int × Nat
 | [] => (0, 0)
 | b :: t =>
  let n := headN b.toNat
  if n = 0 then (-1, 0)
  else if t.length + 1 < n then (-1, 0)
  else
   let m := t.take (n - 1)
   let c := foldC (headC b.toNat) m
   if m.all contB && (charB c && (enc c == b :: m)) then (c, n) else (-1, 0)
theorem headN_le (x : Int) : headN x ≤ 4 := by unfold headN; repeat (first | split | omega)
theorem headC_bd (x : Int) (h0 : 0 ≤ x) : 0 ≤ headC x ∧ headC x < 128 ∧ (2 ≤ headN x → headC x < 32) ∧ (3 ≤ headN x → headC x < 16) ∧ (4 ≤ headN x → headC x < 8) := by
 unfold headC headN
 repeat (first | split | omega)
theorem foldC_bd (x : Int) (h0 : 0 ≤ x) (m : List UInt8) (hm : m.length + 1 ≤ headN x) : ∀ k, k ≤ m.length → 0 ≤ foldC (headC x) (m.take k) ∧ foldC (headC x) (m.take k) < 2097152 := by
 have hb := headC_bd x h0
 have h4 := headN_le x
 have hx : ∀ b : UInt8, 0 ≤ (b.toNat : Int) % 64 ∧ (b.toNat : Int) % 64 < 64 := fun b => by omega
 intro k hk
 match m, hm, hk with
 | [], _, hk =>
  obtain rfl : k = 0 := by simpa using hk
  simp [foldC]; omega
 | [a], hm, hk =>
  have ha := hx a
  simp at hm hk
  match k, hk with
  | 0, _ => simp [foldC]; omega
  | 1, _ => simp [foldC]; omega
 | [a, b], hm, hk =>
  have ha := hx a; have hb' := hx b
  simp at hm hk
  match k, hk with
  | 0, _ => simp [foldC]; omega
  | 1, _ => simp [foldC]; omega
  | 2, _ => simp [foldC]; omega
 | [a, b, c], hm, hk =>
  have ha := hx a; have hb' := hx b; have hc' := hx c
  simp at hm hk
  match k, hk with
  | 0, _ => simp [foldC]; omega
  | 1, _ => simp [foldC]; omega
  | 2, _ => simp [foldC]; omega
  | 3, _ => simp [foldC]; omega
 | a :: b :: c :: d :: r, hm, hk => simp at hm; omega
/-! The document's way to read a character: the number out of the bytes, and tried. -/
def rN (x : Int) : Nat := if x < 192 then 1 else if x < 224 then 2 else if x < 240 then 3 else if x < 248 then 4 else 1
def rC (x : Int) : Int := if x < 192 then x else if x < 224 then x - 192 else if x < 240 then x - 224 else if x < 248 then x - 240 else x
def foldR (c : Int) (m : List UInt8) : Int := m.foldl (fun c x => c * 64 + (x.toNat : Int) - 128) c
end
section
open Go.RowKit
theorem infoByte : (Try.prog.info? 5).map (fun i => (i.zero, i.size, i.bytes)) = some (some (.int .u8 0), 1, 1) := by kernel_rfl
theorem or_u8 : ∀ (m : Fin 4) (x : Fin 64), m.val * 64 + x.val < 256 → bits .or .u8 ((m.val : Int) * 64) (x.val : Int) = (m.val : Int) * 64 + x.val := by decide +kernel
theorem or192 (x : Int) (h0 : 0 ≤ x) (h1 : x < 64) : bits .or .u8 192 x = 192 + x := by
 have := or_u8 ⟨3, by omega⟩ ⟨x.toNat, by omega⟩ (by simp; omega)
 simpa [Int.toNat_of_nonneg h0] using this
theorem or0 : ∀ (x : Fin 256), bits .or .u8 0 (x.val : Int) = x.val := by decide +kernel
theorem or224a : ∀ (x : Fin 16), bits .or .u8 224 (x.val : Int) = 224 + x.val := by decide +kernel
theorem or240a : ∀ (x : Fin 8), bits .or .u8 240 (x.val : Int) = 240 + x.val := by decide +kernel
theorem or0' (x : Int) (h0 : 0 ≤ x) (h1 : x < 256) : bits .or .u8 0 x = x := by
 have := or0 ⟨x.toNat, by omega⟩
 simpa [Int.toNat_of_nonneg h0] using this
theorem or224 (x : Int) (h0 : 0 ≤ x) (h1 : x < 16) : bits .or .u8 224 x = 224 + x := by
 have := or224a ⟨x.toNat, by omega⟩
 simpa [Int.toNat_of_nonneg h0] using this
theorem or240 (x : Int) (h0 : 0 ≤ x) (h1 : x < 8) : bits .or .u8 240 x = 240 + x := by
 have := or240a ⟨x.toNat, by omega⟩
 simpa [Int.toNat_of_nonneg h0] using this
theorem Char_any (c : Int) (w : World) :
  Calls Try.prog 130 #[.int .i32 c] w fun e w' => e = .returned (.bool (charB c)) ∧ w = w' := by
 go_enter Try.func130, Try.ntmps130
 go_wp2
 all_goals go_ret
 all_goals (refine ⟨congrArg (fun b => Ending.returned (.bool b)) ?_, rfl⟩; rw [Bool.eq_iff_iff]; simp [charB]; try omega)
theorem laid1 (c : Int) (w : World) (h0 : 0 ≤ c) (h1 : c < 128) :
  Calls Try.prog 131 #[.int .i32 c, .int .u8 0, .int .i64 1] w (Ret w (.string ⟨(enc c).toArray⟩)) := by
 have e0 : bits .or .u8 0 c = c := or0' _ (by omega) (by omega)
 go_enter Try.func131, Try.ntmps131
 go_wp2
 refine wp_loop_rounds 1 ?_
 have hc : [Value.int .u8 (c)] = Lib.byteCells (enc c) := by
  unfold enc; rw [if_pos (by omega)]; simp [Lib.byteCells]
  simp only [bt_toNat (c) (by omega) (by omega)]
 have hown : (w.alloc (.cells #[.int .u8 c] 5)).ownsRow w.heap.size 5 1 (.slice (some ⟨w.heap.size, 0, none⟩) 1 1) 1 (Lib.byteCells (enc c)) := by
  rw [← hc]; exact own_lit w 5 (.int .u8 c) w.heap.size (Nat.le_refl _)
 clear hc
 have hcv := run_string_own (P := Try.prog) hown Try.underlying78 Try.underlying5 Try.underlying9
 rw [rounds_succ]
 go_wp2
 go_ret
 exact ⟨rfl, (Below.refl _ _).alloc (Nat.le_refl _) _⟩
theorem laid2 (c : Int) (w : World) (h0 : 128 ≤ c) (h1 : c < 2048) :
  Calls Try.prog 131 #[.int .i32 c, .int .u8 192, .int .i64 2] w (Ret w (.string ⟨(enc c).toArray⟩)) := by
 have e0 : bits .or .u8 192 (c / 64 % 256) = 192 + c / 64 := by rw [or192 _ (by omega) (by omega)]; omega
 have e1 : bits .or .u8 192 (c / 64) = 192 + c / 64 := by rw [or192 _ (by omega) (by omega)]
 go_enter Try.func131, Try.ntmps131
 go_wp2
 refine wp_loop_rounds 2 ?_
 rw [rounds_succ]
 go_wp2_with (at_builtin; refine append1 rfl (.tmp 24) (.tmp 32) 78 rfl w.heap.size 5 (.int .u8 0) 1 Try.underlying78 infoByte rfl _ 1 [.int .u8 (192 + c / 64)] _ rfl (own_lit _ _ _ _ (Nat.le_refl _)) (by simp) _ rfl (by simp) rfl (by omega) (by omega) ?_)
 intro g1 cp1 w1 hown1 hb1 hz1
 try simp only [List.cons_append, List.nil_append] at hown1
 have hc : [Value.int .u8 (192 + c / 64), Value.int .u8 (128 + c % 64)] = Lib.byteCells (enc c) := by
  unfold enc; rw [if_neg (by omega), if_pos (by omega)]; simp [Lib.byteCells]
  simp only [bt_toNat (192 + c / 64) (by omega) (by omega), bt_toNat (128 + c % 64) (by omega) (by omega)]; simp
 rw [hc] at hown1
 clear hc
 have hcv := run_string_own (P := Try.prog) hown1 Try.underlying78 Try.underlying5 Try.underlying9
 go_wp2
 rw [rounds_succ]
 go_wp2
 go_ret
 exact ⟨rfl, ((Below.refl _ w).alloc (Nat.le_refl _) _).trans hb1⟩
theorem laid3 (c : Int) (w : World) (h0 : 2048 ≤ c) (h1 : c < 65536) :
  Calls Try.prog 131 #[.int .i32 c, .int .u8 224, .int .i64 3] w (Ret w (.string ⟨(enc c).toArray⟩)) := by
 have e0 : bits .or .u8 224 (c / 4096 % 256) = 224 + c / 4096 := by rw [or224 _ (by omega) (by omega)]; omega
 have e1 : bits .or .u8 224 (c / 4096) = 224 + c / 4096 := by rw [or224 _ (by omega) (by omega)]
 go_enter Try.func131, Try.ntmps131
 go_wp2
 refine wp_loop_rounds 3 ?_
 rw [rounds_succ]
 go_wp2_with (at_builtin; refine append1 rfl (.tmp 24) (.tmp 32) 78 rfl w.heap.size 5 (.int .u8 0) 1 Try.underlying78 infoByte rfl _ 1 [.int .u8 (224 + c / 4096)] _ rfl (own_lit _ _ _ _ (Nat.le_refl _)) (by simp) _ rfl (by simp) rfl (by omega) (by omega) ?_)
 intro g1 cp1 w1 hown1 hb1 hz1
 try simp only [List.cons_append, List.nil_append] at hown1
 have hs1 : w.heap.size < w1.heap.size := by omega
 go_wp2
 rw [rounds_succ]
 go_wp2_with (at_builtin; refine append1 rfl (.tmp 24) (.tmp 32) 78 rfl w.heap.size 5 (.int .u8 0) 1 Try.underlying78 infoByte rfl _ 2 [.int .u8 (224 + c / 4096), .int .u8 (128 + c / 64 % 64)] _ rfl hown1 (by omega) _ rfl (by simp) rfl (by omega) (by omega) ?_)
 intro g2 cp2 w2 hown2 hb2 hz2
 try simp only [List.cons_append, List.nil_append] at hown2
 have hc : [Value.int .u8 (224 + c / 4096), Value.int .u8 (128 + c / 64 % 64), Value.int .u8 (128 + c % 64)] = Lib.byteCells (enc c) := by
  unfold enc; rw [if_neg (by omega), if_neg (by omega), if_pos (by omega)]; simp [Lib.byteCells]
  simp only [bt_toNat (224 + c / 4096) (by omega) (by omega), bt_toNat (128 + c / 64 % 64) (by omega) (by omega), bt_toNat (128 + c % 64) (by omega) (by omega)]; simp
 rw [hc] at hown2
 clear hc
 have hcv := run_string_own (P := Try.prog) hown2 Try.underlying78 Try.underlying5 Try.underlying9
 go_wp2
 rw [rounds_succ]
 go_wp2
 go_ret
 exact ⟨rfl, (((Below.refl _ w).alloc (Nat.le_refl _) _).trans hb1).trans hb2⟩
theorem laid4 (c : Int) (w : World) (h0 : 65536 ≤ c) (h1 : c ≤ 1114111) :
  Calls Try.prog 131 #[.int .i32 c, .int .u8 240, .int .i64 4] w (Ret w (.string ⟨(enc c).toArray⟩)) := by
 have e0 : bits .or .u8 240 (c / 262144 % 256) = 240 + c / 262144 := by rw [or240 _ (by omega) (by omega)]; omega
 have e1 : bits .or .u8 240 (c / 262144) = 240 + c / 262144 := by rw [or240 _ (by omega) (by omega)]
 go_enter Try.func131, Try.ntmps131
 go_wp2
 refine wp_loop_rounds 4 ?_
 rw [rounds_succ]
 go_wp2_with (at_builtin; refine append1 rfl (.tmp 24) (.tmp 32) 78 rfl w.heap.size 5 (.int .u8 0) 1 Try.underlying78 infoByte rfl _ 1 [.int .u8 (240 + c / 262144)] _ rfl (own_lit _ _ _ _ (Nat.le_refl _)) (by simp) _ rfl (by simp) rfl (by omega) (by omega) ?_)
 intro g1 cp1 w1 hown1 hb1 hz1
 try simp only [List.cons_append, List.nil_append] at hown1
 have hs1 : w.heap.size < w1.heap.size := by omega
 go_wp2
 rw [rounds_succ]
 go_wp2_with (at_builtin; refine append1 rfl (.tmp 24) (.tmp 32) 78 rfl w.heap.size 5 (.int .u8 0) 1 Try.underlying78 infoByte rfl _ 2 [.int .u8 (240 + c / 262144), .int .u8 (128 + c / 4096 % 64)] _ rfl hown1 (by omega) _ rfl (by simp) rfl (by omega) (by omega) ?_)
 intro g2 cp2 w2 hown2 hb2 hz2
 try simp only [List.cons_append, List.nil_append] at hown2
 have hs2 : w.heap.size < w2.heap.size := by omega
 go_wp2
 rw [rounds_succ]
 go_wp2_with (at_builtin; refine append1 rfl (.tmp 24) (.tmp 32) 78 rfl w.heap.size 5 (.int .u8 0) 1 Try.underlying78 infoByte rfl _ 3 [.int .u8 (240 + c / 262144), .int .u8 (128 + c / 4096 % 64), .int .u8 (128 + c / 64 % 64)] _ rfl hown2 (by omega) _ rfl (by simp) rfl (by omega) (by omega) ?_)
 intro g3 cp3 w3 hown3 hb3 hz3
 try simp only [List.cons_append, List.nil_append] at hown3
 have hc : [Value.int .u8 (240 + c / 262144), Value.int .u8 (128 + c / 4096 % 64), Value.int .u8 (128 + c / 64 % 64), Value.int .u8 (128 + c % 64)] = Lib.byteCells (enc c) := by
  unfold enc; rw [if_neg (by omega), if_neg (by omega), if_neg (by omega)]; simp [Lib.byteCells]
  simp only [bt_toNat (240 + c / 262144) (by omega) (by omega), bt_toNat (128 + c / 4096 % 64) (by omega) (by omega), bt_toNat (128 + c / 64 % 64) (by omega) (by omega), bt_toNat (128 + c % 64) (by omega) (by omega)]; simp
 rw [hc] at hown3
 clear hc
 have hcv := run_string_own (P := Try.prog) hown3 Try.underlying78 Try.underlying5 Try.underlying9
 go_wp2
 rw [rounds_succ]
 go_wp2
 go_ret
 exact ⟨rfl, ((((Below.refl _ w).alloc (Nat.le_refl _) _).trans hb1).trans hb2).trans hb3⟩
theorem Put_any (c : Int) (w : World) :
  Calls Try.prog 103 #[.int .i32 c] w (Ret w (.tuple #[.string ⟨(putF c).toArray⟩, .bool (charB c)])) := by
 by_cases hc : charB c = true
 ·have hp : putF c = enc c := by unfold putF; rw [if_pos hc]
  have hr : 0 ≤ c ∧ c ≤ 1114111 := by simp [charB] at hc; omega
  obtain ⟨hr0, hr1⟩ := hr
  have HP := Lib.hid hp
  clear hp
  go_enter Try.func103, Try.ntmps103
  go_wp2_with (first
   | (go_at_call 130; refine (Char_any _ _).mono ?_; rintro e w' ⟨rfl, rfl⟩)
   | (go_at_call 131; first
     | ((with_reducible refine (laid1 _ _ (by omega) (by omega)).mono ?_); rintro e w' ⟨rfl, hb⟩)
     | ((with_reducible refine (laid2 _ _ (by omega) (by omega)).mono ?_); rintro e w' ⟨rfl, hb⟩)
     | ((with_reducible refine (laid3 _ _ (by omega) (by omega)).mono ?_); rintro e w' ⟨rfl, hb⟩)
     | ((with_reducible refine (laid4 _ _ (by omega) (by omega)).mono ?_); rintro e w' ⟨rfl, hb⟩)))
  all_goals go_ret2
  all_goals exact ⟨by rw [HP.out, hc]; rfl, hb⟩
 ·have hc' : charB c = false := by simpa using hc
  clear hc
  have HP : Hid (putF c = []) := by unfold putF; rw [hc']; rfl
  go_enter Try.func103, Try.ntmps103
  go_wp2_with (go_at_call 130; refine (Char_any _ _).mono ?_; rintro e w' ⟨rfl, rfl⟩)
  go_ret2
  exact ⟨by rw [HP.out, hc']; rfl, Below.refl _ _⟩
end
section
open Go.RowKit
theorem head_any (x : Int) (w : World) (h0 : 0 ≤ x) (h1 : x < 256) :
  Calls Try.prog 102 #[.int .u8 x] w fun e w' => e = .returned (.tuple #[.int .i64 (headN x : Nat), .int .i32 (headC x)]) ∧ w = w' := by
 go_enter Try.func102, Try.ntmps102
 go_wp2
 all_goals go_ret2
 all_goals (refine ⟨ret_ii ?_ ?_, rfl⟩)
 all_goals (simp only [headN, headC]; repeat (first | rw [if_pos (by omega)] | rw [if_neg (by omega)])) <;> rfl
theorem head_as (x : Int) (w : World) (h0 : 0 ≤ x) (h1 : x < 256) (n : Nat) (c : Int) (hn : headN x = n) (hc : headC x = c) :
  Calls Try.prog 102 #[.int .u8 x] w fun e w' => e = .returned (.tuple #[.int .i64 (n : Nat), .int .i32 c]) ∧ w = w' := by
 subst hn; subst hc
 exact head_any x w h0 h1
theorem Next_nil (s : ByteArray) (w : World) (he : s.toList.isEmpty = true) :
  Calls Try.prog 77 #[.string s] w (Ret w (.tuple #[.int .i32 0, .int .i64 0])) := by
 go_enter Try.func77, Try.ntmps77
 go_wp2_with fail
 go_ret2
 exact ⟨rfl, Below.refl _ _⟩
theorem Next_none (s : ByteArray) (w : World) (b : UInt8) (_hs : s.size ≤ maxLen) (hp : 0 < s.size) (hne : s.toList.isEmpty = false) (he : s[0] = b) (h0 : Hid (headN b.toNat = 0)) :
  Calls Try.prog 77 #[.string s] w (Ret w (.tuple #[.int .i32 (-1), .int .i64 0])) := by
 unfold maxLen at _hs
 have hb256 : (b.toNat : Int) < 256 := by have := b.toNat_lt; omega
 go_enter Try.func77, Try.ntmps77
 go_wp2_with (go_at_call 102; refine (head_as _ _ (by omega) (by omega) 0 _ h0.out rfl).mono ?_; rintro e w' ⟨rfl, rfl⟩)
 go_ret2
 exact ⟨rfl, Below.refl _ _⟩
theorem Next_short (s : ByteArray) (w : World) (b : UInt8) (n : Nat) (hs : s.size ≤ maxLen) (hp : 0 < s.size) (hne : s.toList.isEmpty = false) (he : s[0] = b) (h0 : Hid (headN b.toNat = n)) (hn : s.size < n) (_h4 : n ≤ 4) :
  Calls Try.prog 77 #[.string s] w (Ret w (.tuple #[.int .i32 (-1), .int .i64 0])) := by
 unfold maxLen at hs
 have hb256 : (b.toNat : Int) < 256 := by have := b.toNat_lt; omega
 have hz : ((n : Int) == 0) = false := by simp; omega
 have hlt : decide (s.size < n) = true := by simp; omega
 go_enter Try.func77, Try.ntmps77
 go_wp2_with (go_at_call 102; refine (head_as _ _ (by omega) (by omega) n _ h0.out rfl).mono ?_; rintro e w' ⟨rfl, rfl⟩)
 go_ret2
 exact ⟨rfl, Below.refl _ _⟩
theorem and192 : ∀ x : Fin 256, (bits .and .u8 (x.val : Int) 192 != 128) = !decide (128 ≤ (x.val : Int) ∧ (x.val : Int) < 192) := by decide +kernel
theorem and192' (b : UInt8) : (bits .and .u8 (b.toNat : Int) 192 != 128) = !contB b := and192 ⟨b.toNat, b.toNat_lt⟩
theorem Next_good (s : ByteArray) (w : World) (b : UInt8) (n L : Nat) (c0 : Int) (m : List UInt8) (_hs : s.size ≤ maxLen) (hp : 0 < s.size) (hne : s.toList.isEmpty = false) (he : s[0] = b) (h0 : Hid (headN b.toNat = n)) (hc0 : Hid (headC b.toNat = c0))
  (hn : n ≤ s.size) (h1 : 1 ≤ n) (h4 : n ≤ 4) (hL : Hid (L + 1 = n)) (hml : Hid (m.length = L)) (hm : Hid ((s.extract 1 n).data.toList = m)) (hm0 : Hid ((s.extract 0 n).data.toList = b :: m)) (hbd : Hid (∀ k, k ≤ m.length → 0 ≤ foldC c0 (m.take k) ∧ foldC c0 (m.take k) < 2097152))
  (V : Int × Nat) (hV : Hid (V = if m.all contB && (charB (foldC c0 m) && (enc (foldC c0 m) == b :: m)) then (foldC c0 m, n) else (-1, 0))) :
  Calls Try.prog 77 #[.string s] w (Ret w (.tuple #[.int .i32 V.1, .int .i64 (V.2 : Nat)])) := by
 unfold maxLen at _hs
 have hb256 : (b.toNat : Int) < 256 := by have := b.toNat_lt; omega
 have hz : ((n : Int) == 0) = false := by simp; omega
 have hlt : decide (s.size < n) = false := by simp; omega
 have hsz : (s.extract 1 n).size = L := by have := hL.out; simp; omega
 obtain ⟨cap, wb, hcv, hbb, hbz, hbc⟩ := run_bytes_of (P := Try.prog) w 9 78 5 (s.extract 1 n) L _ hsz hm.out Try.underlying9 Try.underlying78 Try.underlying5
 have hz' : w.heap.size < wb.heap.size := by omega
 have hL4 : L ≤ 3 := by have := hL.out; omega
 have HBC := Lib.hid hbc
 clear hbc hbz hsz
 go_enter Try.func77, Try.ntmps77
 go_wp2_with (go_at_call 102; refine (head_as _ _ (by omega) (by omega) n c0 h0.out hc0.out).mono ?_; rintro e w' ⟨rfl, rfl⟩)
 go_loop [5, 31] (fun c i => ∃ k : Nat, k ≤ L ∧ i = .int .i64 k ∧ c = .int .i32 (foldC c0 (m.take k)) ∧ (m.take k).all contB = true) (fun _ i => L - (intOf i).toNat)
 case atStart => exact ⟨0, Nat.zero_le _, rfl, rfl, rfl⟩
 case round =>
  obtain ⟨k, hk, rfl, rfl, hall⟩ := hrel
  have HA := Lib.hid hall
  clear hall
  have hbk := hbd.out k (by have := hml.out; omega)
  generalize hck : foldC c0 (m.take k) = ck at *
  have HCK := Lib.hid hck
  clear hck
  obtain ⟨hbk0, hbk1⟩ := hbk
  by_cases hlt : k < L
  ·obtain ⟨x, HX⟩ : ∃ x, Hid (m[k]? = some x) := ⟨m[k]'(by have := hml.out; omega), List.getElem?_eq_getElem _⟩
   have hcell : wb.cell? ⟨w.heap.size, k, none⟩ = some (.int .u8 x.toNat) := by
    have hkm : k < m.length := by have := hml.out; omega
    rw [HBC.out k hkm]
    have := HX.out
    rw [List.getElem?_eq_getElem hkm] at this
    simp at this; rw [this]
   have hx1 : (x.toNat : Int) < 256 := by have := x.toNat_lt; omega
   have ht := and192' x
   by_cases hcx : contB x = true
   ·go_wp2
    go_round
    case rel =>
     have hkm : k < m.length := by have := hml.out; omega
     have htk : m.take (k + 1) = m.take k ++ [x] := by
      have := HX.out
      rw [List.take_add_one, this]; rfl
     refine ⟨k + 1, by omega, by go_num, ?_, ?_⟩
     ·rw [htk, foldC_snoc, HCK.out]
     ·rw [htk, List.all_append, HA.out]; simpa using hcx
    case measure => simp [intOf]; omega
   ·have hcx' : contB x = false := by simpa using hcx
    clear hcx
    go_wp2
    go_ret2
    have hall : m.all contB = false := by
     cases hh : m.all contB with
     | false => rfl
     | true => rw [List.all_eq_true] at hh; rw [hh x (List.mem_of_getElem? HX.out)] at hcx'; cases hcx'
    have hv : V = (-1, 0) := by rw [hV.out, hall]; rfl
    exact ⟨by rw [hv]; rfl, hbb⟩
  ·obtain rfl : k = L := by omega
   have hfull : m.take k = m := List.take_of_length_le (by have := hml.out; omega)
   have HCK' : Hid (foldC c0 m = ck) := by have := HCK.out; rw [hfull] at this; exact this
   have hm0' : (s.extract 0 n).toList = b :: m := by rw [ByteArray.toList_eq]; exact hm0.out
   by_cases hch : charB ck = true
   ·have hpf : putF ck = enc ck := by unfold putF; rw [if_pos hch]
    have HPF := Lib.hid hpf
    clear hpf
    by_cases hq : (putF ck == (s.extract 0 n).toList) = true
    ·have hv : Hid (V = (ck, n)) := by
      have hq' : (enc ck == b :: m) = true := by rw [← HPF.out, ← hm0']; exact hq
      have ha : m.all contB = true := by have := HA.out; rwa [hfull] at this
      show V = (ck, n)
      rw [hV.out, HCK'.out, ha, hch, hq']; rfl
     have HM := Lib.hid hm0'
     clear hm0' hfull
     go_wp2_with (go_at_call 103; refine (Put_any _ _).mono ?_; rintro e w2 ⟨rfl, hb2⟩)
     go_ret2
     exact ⟨by rw [hv.out]; rfl, hbb.trans (hb2.mono (by omega))⟩
    ·have hq0 : (putF ck == (s.extract 0 n).toList) = false := by simpa using hq
     clear hq
     have hv : Hid (V = (-1, 0)) := by
      have hq' : (enc ck == b :: m) = false := by rw [← HPF.out, ← hm0']; exact hq0
      show V = (-1, 0)
      rw [hV.out, HCK'.out, hq']; simp
     have HM := Lib.hid hm0'
     clear hm0' hfull
     go_wp2_with (go_at_call 103; refine (Put_any _ _).mono ?_; rintro e w2 ⟨rfl, hb2⟩)
     go_ret2
     exact ⟨by rw [hv.out]; rfl, hbb.trans (hb2.mono (by omega))⟩
   ·have hch' : charB ck = false := by simpa using hch
    clear hch
    have hv : Hid (V = (-1, 0)) := by
     show V = (-1, 0)
     rw [hV.out, HCK'.out, hch']; simp
    clear hfull
    have HM := Lib.hid hm0'
    clear hm0'
    go_wp2_with (go_at_call 103; refine (Put_any _ _).mono ?_; rintro e w2 ⟨rfl, hb2⟩)
    go_ret2
    exact ⟨by rw [hv.out]; rfl, hbb.trans (hb2.mono (by omega))⟩
theorem size_toList (s : ByteArray) : s.data.toList.length = s.size := by rw [Array.length_toList]; rfl
theorem get0_of (s : ByteArray) (b : UInt8) (t : List UInt8) (h : s.data.toList = b :: t) (hp : 0 < s.size) : s[0] = b := by
 have : s.data[0]'hp = b := by
  have h2 : s.data.toList[0]? = some b := by rw [h]; rfl
  rw [Array.getElem?_toList, Array.getElem?_eq_getElem hp] at h2
  exact Option.some.inj h2
 exact this
theorem Next_any (s : ByteArray) (w : World) (hs : s.size ≤ maxLen) :
  Calls Try.prog 77 #[.string s] w (Ret w (.tuple #[.int .i32 (nextL s.data.toList).1, .int .i64 ((nextL s.data.toList).2 : Nat)])) := by
 have hsz := size_toList s
 cases hl : s.data.toList with
 | nil =>
  exact Next_nil s w (by rw [ByteArray.toList_eq, hl]; rfl)
 | cons b t =>
  have hp : 0 < s.size := by rw [← hsz, hl]; simp
  have hne : s.toList.isEmpty = false := by rw [ByteArray.toList_eq, hl]; rfl
  have he := get0_of s b t hl hp
  have hlen : t.length + 1 = s.size := by rw [← hsz, hl]; rfl
  have h4 := headN_le b.toNat
  by_cases h0 : headN b.toNat = 0
  ·have hv : nextL (b :: t) = (-1, 0) := by simp [nextL, h0]
   rw [hv]
   exact Next_none s w b hs hp hne he h0
  ·by_cases hlt : t.length + 1 < headN b.toNat
   ·have hv : nextL (b :: t) = (-1, 0) := by simp [nextL, h0, hlt]
    rw [hv]
    exact Next_short s w b _ hs hp hne he rfl (by omega) h4
   ·have hv : nextL (b :: t) = if (t.take (headN b.toNat - 1)).all contB && (charB (foldC (headC b.toNat) (t.take (headN b.toNat - 1))) && (enc (foldC (headC b.toNat) (t.take (headN b.toNat - 1))) == b :: t.take (headN b.toNat - 1))) then (foldC (headC b.toNat) (t.take (headN b.toNat - 1)), headN b.toNat) else (-1, 0) := by
     simp only [nextL]; rw [if_neg h0, if_neg hlt]
    have hml : (t.take (headN b.toNat - 1)).length = headN b.toNat - 1 := by rw [List.length_take]; omega
    have hx1 : (s.extract 1 (headN b.toNat)).data.toList = t.take (headN b.toNat - 1) := by rw [Lib.extract_data, hl]; rfl
    have hx0 : (s.extract 0 (headN b.toNat)).data.toList = b :: t.take (headN b.toNat - 1) := by
     rw [Lib.extract_data, hl]
     obtain ⟨q, hq⟩ : ∃ q, headN b.toNat = q + 1 := ⟨headN b.toNat - 1, by omega⟩
     rw [hq]; rfl
    exact Next_good s w b (headN b.toNat) (headN b.toNat - 1) (headC b.toNat) _ hs hp hne he rfl rfl (by omega) (by omega) h4 (by show _ = _; omega) hml hx1 hx0 (foldC_bd _ (by omega) _ (by omega)) _ hv
end
section
def writtenL (v : Bool) (c : Int) : List UInt8 :=
 if c = 13 then [38, 35, 49, 51, 59]
 else if c = 9 ∧ v = true then [38, 35, 57, 59]
 else if c = 10 ∧ v = true then [38, 35, 49, 48, 59]
 else if c = 38 then [38, 97, 109, 112, 59]
 else if c = 60 then [38, 108, 116, 59]
 else if c = 62 then [38, 103, 116, 59]
 else if c = 34 ∧ v = true then [38, 113, 117, 111, 116, 59]
 else putF c
theorem putF_len (c : Int) : (putF c).length ≤ 4 := by
 unfold putF enc
 repeat (first | split | simp)
def charsF : Nat → List UInt8 → Option (List Int)
 | 0, l => if l = [] then some [] else none
 | f + 1, l => if l = [] then some [] else if (nextL l).2 = 0 then none else (charsF f (l.drop (nextL l).2)).map ((nextL l).1 :: ·)
theorem charsF_more (f : Nat) : ∀ (l : List UInt8) (g : Nat), l.length ≤ f → l.length ≤ g → charsF f l = charsF g l := by
 induction f with
 | zero =>
  intro l g h _
  obtain rfl : l = [] := List.eq_nil_of_length_eq_zero (by omega)
  cases g <;> simp [charsF]
 | succ f ih =>
  intro l g h h'
  by_cases hl : l = []
  ·subst hl; cases g <;> simp [charsF]
  ·have hp : 0 < l.length := List.length_pos_iff.2 hl
   obtain ⟨g, rfl⟩ : ∃ g', g = g' + 1 := ⟨g - 1, by omega⟩
   simp only [charsF, if_neg hl]
   by_cases hn : (nextL l).2 = 0
   ·rw [if_pos hn, if_pos hn]
   ·rw [if_neg hn, if_neg hn, ih _ g (by rw [List.length_drop]; omega) (by rw [List.length_drop]; omega)]
def charsL (l : List UInt8) : Option (List Int) := charsF l.length l
theorem charsL_nil : charsL [] = some [] := rfl
theorem charsL_bad (l : List UInt8) (h : l ≠ []) (hn : (nextL l).2 = 0) : charsL l = none := by
 unfold charsL
 cases hl : l.length with
 | zero => exact absurd (List.eq_nil_of_length_eq_zero hl) h
 | succ f => simp only [charsF, if_neg h, if_pos hn]
theorem charsL_step (l : List UInt8) (h : l ≠ []) (hn : (nextL l).2 ≠ 0) : charsL l = (charsL (l.drop (nextL l).2)).map ((nextL l).1 :: ·) := by
 unfold charsL
 have hp : 0 < l.length := List.length_pos_iff.2 h
 obtain ⟨f, hf⟩ : ∃ f, l.length = f + 1 := ⟨l.length - 1, by omega⟩
 rw [hf]
 simp only [charsF, if_neg h, if_neg hn]
 rw [charsF_more f _ (l.drop (nextL l).2).length (by rw [List.length_drop]; omega) (Nat.le_refl _)]
def escL (v : Bool) (l : List UInt8) : Option (List UInt8) := (charsL l).map (fun cs => cs.flatMap (writtenL v))
theorem nextL_le (l : List UInt8) : (nextL l).2 ≤ l.length ∧ (nextL l).2 ≤ 4 := by
 match l with
 | [] => simp [nextL]
 | b :: t =>
  have h4 := headN_le b.toNat
  simp only [nextL]
  split
  ·simp
  ·split
   ·simp
   ·split
    ·simp; omega
    ·simp
end
end Go.Proofs.Ythifddkmbjnncaa
namespace Go.Proofs
open Go.Shelf Go.RowKit
def Try.lays169_ren : Go.Shelf.Ren := ⟨fun | 169 => 57 | n => n, fun | 0 => 0 | 3 => 3 | 9 => 9 | 37 => 78 | 70 => 77 | 72 => 80 | 127 => 113 | 5 => 5 | n => n, fun | n => n⟩
theorem Try.lays169 : Go.Proofs.Lays.n169 Try.prog Try.lays169_ren := {
 mixed := by kernel_rfl
 f169 := Try.func57.trans (congrArg some (by kernel_rfl))
 t0 := Try.underlying0
 a0 := Try.isAgg0
 z0 := Try.sizeOf0
 v0 := Try.zeroValue0
 t3 := Try.underlying3
 a3 := Try.isAgg3
 z3 := Try.sizeOf3
 v3 := Try.zeroValue3
 t9 := Try.underlying9
 a9 := Try.isAgg9
 z9 := Try.sizeOf9
 v9 := Try.zeroValue9
 t37 := Try.underlying78
 a37 := Try.isAgg78
 z37 := Try.sizeOf78
 v37 := Try.zeroValue78
 t70 := Try.underlying77
 a70 := Try.isAgg77
 z70 := Try.sizeOf77
 v70 := Try.zeroValue77
 t72 := Try.underlying80
 a72 := Try.isAgg80
 z72 := Try.sizeOf80
 v72 := Try.zeroValue80
 t127 := Try.underlying113
 a127 := Try.isAgg113
 z127 := Try.sizeOf113
 v127 := Try.zeroValue113 }
theorem Try.Builder_Extra_169 : Builder.Extra Try.prog Try.lays169_ren := {
 sizeBuilder := by kernel_rfl
 liesBuilder := by kernel_rfl
 t5 := Try.underlying5
 a5 := Try.isAgg5
 z5 := Try.sizeOf5
 v5 := Try.zeroValue5
 infoByte := by kernel_rfl
 cellsByte := by kernel_rfl
 sizeByte := by kernel_rfl
 neB5 := by decide }
def Try.lays166_ren : Go.Shelf.Ren := ⟨fun | 166 => 53 | 240 => 85 | 276 => 105 | n => n, fun | 0 => 0 | 3 => 3 | 4 => 4 | 9 => 9 | 20 => 20 | 37 => 78 | 70 => 77 | 72 => 80 | 75 => 86 | 164 => 126 | 5 => 5 | 80 => 89 | n => n, fun | n => n⟩
theorem Try.lays166 : Go.Proofs.Lays.n166 Try.prog Try.lays166_ren := {
 mixed := by kernel_rfl
 f166 := Try.func53.trans (congrArg some (by kernel_rfl))
 f240 := Try.func85.trans (congrArg some (by kernel_rfl))
 f276 := Try.func105.trans (congrArg some (by kernel_rfl))
 t0 := Try.underlying0
 a0 := Try.isAgg0
 z0 := Try.sizeOf0
 v0 := Try.zeroValue0
 t3 := Try.underlying3
 a3 := Try.isAgg3
 z3 := Try.sizeOf3
 v3 := Try.zeroValue3
 t4 := Try.underlying4
 a4 := Try.isAgg4
 z4 := Try.sizeOf4
 v4 := Try.zeroValue4
 t9 := Try.underlying9
 a9 := Try.isAgg9
 z9 := Try.sizeOf9
 v9 := Try.zeroValue9
 t20 := Try.underlying20
 a20 := Try.isAgg20
 z20 := Try.sizeOf20
 v20 := Try.zeroValue20
 t37 := Try.underlying78
 a37 := Try.isAgg78
 z37 := Try.sizeOf78
 v37 := Try.zeroValue78
 t70 := Try.underlying77
 a70 := Try.isAgg77
 z70 := Try.sizeOf77
 v70 := Try.zeroValue77
 t72 := Try.underlying80
 a72 := Try.isAgg80
 z72 := Try.sizeOf80
 v72 := Try.zeroValue80
 t75 := Try.underlying86
 a75 := Try.isAgg86
 z75 := Try.sizeOf86
 v75 := Try.zeroValue86
 t164 := Try.underlying126
 a164 := Try.isAgg126
 z164 := Try.sizeOf126
 v164 := Try.zeroValue126 }
theorem Try.Builder_Extra_166 : Builder.Extra Try.prog Try.lays166_ren := {
 sizeBuilder := by kernel_rfl
 liesBuilder := by kernel_rfl
 t5 := Try.underlying5
 a5 := Try.isAgg5
 z5 := Try.sizeOf5
 v5 := Try.zeroValue5
 infoByte := by kernel_rfl
 cellsByte := by kernel_rfl
 sizeByte := by kernel_rfl
 neB5 := by decide }
theorem Try.Builder_WriteString (B b : Nat) (bs : List Value) (s : ByteArray) (w : World) (h : Lib.IsBuilder 80 5 B b bs w) (hlen : bs.length + s.size ≤ 140737488355328) (hBw : B ≤ w.heap.size) :
  Calls Try.prog 53 #[.pointer (some ⟨b, 0, none⟩), .string s] w fun e w' => e = .returned (.tuple #[.int .i64 s.size, .nilIface]) ∧ (Lib.BuilderAt 80 5 B b (.pointer (some ⟨b, 0, none⟩)) (bs ++ Lib.strCells s) w' ∧ Below B w w') := Any.Builder_WriteString Try.lays166 Try.Builder_Extra_166 B b bs s w h hlen hBw
theorem Try.Builder_String (B b : Nat) (l : List UInt8) (w : World) (h : Lib.IsBuilder 80 5 B b (Lib.byteCells l) w) (hBw : B ≤ w.heap.size) :
  Calls Try.prog 57 #[.pointer (some ⟨b, 0, none⟩)] w fun e w' => e = .returned (.string ⟨l.toArray⟩) ∧ Below B w w' := Any.Builder_String_any Try.lays169 Try.Builder_Extra_169 B b l w h hBw
end Go.Proofs
namespace Go.Proofs.Ythifddkmbjnncaa
set_option maxRecDepth 100000
set_option maxHeartbeats 16000000
section
open Go.RowKit
theorem Next_as (s : ByteArray) (w : World) (hs : s.size ≤ maxLen) (c : Int) (n : Nat) (h : Hid (nextL s.data.toList = (c, n))) :
  Calls Try.prog 77 #[.string s] w (Ret w (.tuple #[.int .i32 c, .int .i64 (n : Nat)])) := by
 have := Next_any s w hs
 rw [h.out] at this
 exact this
end
end Go.Proofs.Ythifddkmbjnncaa
namespace Go.Proofs
open Go.Shelf Go.RowKit
def Try.lays99_ren : Go.Shelf.Ren := ⟨fun | 99 => 69 | 206 => 97 | n => n, fun | 3 => 3 | 4 => 4 | 9 => 9 | n => n, fun | n => n⟩
theorem Try.lays99 : Go.Proofs.Lays.n99 Try.prog Try.lays99_ren := {
 mixed := by kernel_rfl
 f99 := Try.func69.trans (congrArg some (by kernel_rfl))
 f206 := Try.func97.trans (congrArg some (by kernel_rfl))
 t3 := Try.underlying3
 a3 := Try.isAgg3
 z3 := Try.sizeOf3
 v3 := Try.zeroValue3
 t4 := Try.underlying4
 a4 := Try.isAgg4
 z4 := Try.sizeOf4
 v4 := Try.zeroValue4
 t9 := Try.underlying9
 a9 := Try.isAgg9
 z9 := Try.sizeOf9
 v9 := Try.zeroValue9 }
theorem Try.strings_HasPrefix (s p : ByteArray) (w : World) :
  Calls Try.prog 69 #[.string s, .string p] w fun e w' => e = .returned (.bool (Lib.hasPrefix s.data.toList p.data.toList)) ∧ w' = w := Any.strings_HasPrefix Try.lays99 s p w
end Go.Proofs
namespace Go.Proofs.Ythifddkmbjnncaa
set_option maxRecDepth 100000
set_option maxHeartbeats 16000000
section
open Go.RowKit
/-! The document's Char and Put. -/
end
section
open Go.RowKit
theorem getk_of (s : ByteArray) (k : Nat) (x : UInt8) (h : s.data.toList[k]? = some x) (hk : k < s.size) : s[k] = x := by
 have : s.data[k]'hk = x := by
  rw [Array.getElem?_toList, Array.getElem?_eq_getElem hk] at h
  exact Option.some.inj h
 exact this
end
section
def digitV (base x : Int) : Int :=
 if 48 ≤ x ∧ x ≤ 57 then x - 48
 else if base = 16 ∧ 97 ≤ x ∧ x ≤ 102 then x - 87
 else if base = 16 ∧ 65 ≤ x ∧ x ≤ 70 then x - 55
 else -1
theorem digitV_bd (base x : Int) : -1 ≤ digitV base x ∧ digitV base x < 16 := by
 unfold digitV
 repeat (first | split | omega)
def scanL (base : Int) : Nat → Int → List UInt8 → Option (Int × Nat)
 | _, _, [] => none
 | k, c, x :: r => if x = 59 ∧ 0 < k then some (c, k) else if digitV base x.toNat < 0 ∨ 7 ≤ k then none else scanL base (k + 1) (c * base + digitV base x.toNat) r
def pre (p l : List UInt8) : Bool := l.take p.length == p
def pick (n : Nat) : Option (Int × Nat) → Int × Nat
 | some (c, k) => (c, n + k + 1)
 | none => (0, 0)
def refL (l : List UInt8) : Int × Nat :=
 if pre [38, 97, 109, 112, 59] l then (38, 5)
 else if pre [38, 108, 116, 59] l then (60, 4)
 else if pre [38, 103, 116, 59] l then (62, 4)
 else if pre [38, 113, 117, 111, 116, 59] l then (34, 6)
 else if pre [38, 97, 112, 111, 115, 59] l then (39, 6)
 else if pre [38, 35] l then
  if pre [38, 35, 120] l then pick 3 (scanL 16 0 0 (l.drop 3)) else pick 2 (scanL 10 0 0 (l.drop 2))
 else (0, 0)
theorem pre_len {p l : List UInt8} (h : pre p l = true) : p.length ≤ l.length := by
 have := congrArg List.length (eq_of_beq h)
 rw [List.length_take] at this
 omega
theorem scanL_le (base : Int) : ∀ (l : List UInt8) (k : Nat) (c : Int) (q : Int × Nat), scanL base k c l = some q → q.2 < k + l.length ∧ q.2 ≤ 7 ∧ k ≤ q.2 ∨ q.2 = k ∧ q.2 < k + l.length := by
 intro l
 induction l with
 | nil => intro k c q h; simp [scanL] at h
 | cons x r ih =>
  intro k c q h
  simp only [scanL] at h
  split at h
  ·injection h with h; subst h; right; simp
  ·split at h
   ·cases h
   ·rename_i hk
    rcases ih _ _ _ h with h' | h'
    ·left; simp only [List.length_cons]; omega
    ·left; simp only [List.length_cons]; omega
theorem refL_le (l : List UInt8) : (refL l).2 ≤ l.length := by
 unfold refL
 have key : ∀ (n : Nat) (base : Int), n ≤ l.length → (pick n (scanL base 0 0 (l.drop n))).2 ≤ l.length := fun n base hn => by
  cases h : scanL base 0 0 (l.drop n) with
  | none => simp [pick]
  | some q =>
   have := scanL_le base _ _ _ _ h
   rw [List.length_drop] at this
   simp only [pick]; omega
 split
 ·rename_i h; exact pre_len h
 split
 ·rename_i h; exact pre_len h
 split
 ·rename_i h; exact pre_len h
 split
 ·rename_i h; exact pre_len h
 split
 ·rename_i h; exact pre_len h
 split
 ·rename_i h
  split
  ·rename_i h'; exact key 3 16 (pre_len h')
  ·exact key 2 10 (pre_len h)
 ·simp
def stepL (v : Bool) (l : List UInt8) : Int ⊕ (List UInt8 × Nat) :=
 let q := nextL l
 if 0 < q.2 ∧ (q.1 = 60 ∨ q.1 = 62) then .inl 20
 else if q.2 = 0 ∨ q.1 = 13 ∨ (v = true ∧ (q.1 = 34 ∨ q.1 = 9 ∨ q.1 = 10)) then .inl 21
 else
  let r := if q.1 = 38 then refL l else q
  if r.2 = 0 then .inl 20 else if charB r.1 = false then .inl 21 else .inr (putF r.1, r.2)
theorem stepL_pos {v : Bool} {l t : List UInt8} {n : Nat} (h : stepL v l = .inr (t, n)) : 1 ≤ n ∧ n ≤ l.length ∧ t.length ≤ 4 := by
 simp only [stepL] at h
 split at h
 ·cases h
 split at h
 ·cases h
 have hr : (if (nextL l).fst = 38 then refL l else nextL l).2 ≤ l.length := by
  split
  ·exact refL_le l
  ·exact (nextL_le l).1
 generalize (if (nextL l).fst = 38 then refL l else nextL l) = r at h hr
 split at h
 ·cases h
 split at h
 ·cases h
 ·injection h with h
  injection h with ht hn
  exact ⟨by omega, by omega, by rw [← ht]; exact putF_len _⟩
def undoF (v : Bool) : Nat → List UInt8 → List UInt8 × Nat × Int
 | 0, _ => ([], 0, 0)
 | f + 1, l =>
  if l = [] then ([], 0, 0)
  else match stepL v l with
   | .inl e => ([], 0, e)
   | .inr (t, n) =>
    let r := undoF v f (l.drop n)
    if r.2.2 = 0 then (t ++ r.1, n + r.2.1, 0) else ([], n + r.2.1, r.2.2)
theorem undoF_more (v : Bool) (f : Nat) : ∀ (l : List UInt8) (g : Nat), l.length ≤ f → l.length ≤ g → undoF v f l = undoF v g l := by
 induction f with
 | zero =>
  intro l g h _
  obtain rfl : l = [] := List.eq_nil_of_length_eq_zero (by omega)
  cases g <;> simp [undoF]
 | succ f ih =>
  intro l g h h'
  by_cases hl : l = []
  ·subst hl; cases g <;> simp [undoF]
  ·have hp : 0 < l.length := List.length_pos_iff.2 hl
   obtain ⟨g, rfl⟩ : ∃ g', g = g' + 1 := ⟨g - 1, by omega⟩
   simp only [undoF, if_neg hl]
   cases hs : stepL v l with
   | inl e => rfl
   | inr q =>
    obtain ⟨t, n⟩ := q
    have := stepL_pos hs
    simp only
    rw [ih (l.drop n) g (by rw [List.length_drop]; omega) (by rw [List.length_drop]; omega)]
def undoL (v : Bool) (l : List UInt8) : List UInt8 × Nat × Int := undoF v l.length l
def joinU (acc : List UInt8) (at_ : Nat) (r : List UInt8 × Nat × Int) : List UInt8 × Nat × Int :=
 if r.2.2 = 0 then (acc ++ r.1, at_ + r.2.1, 0) else ([], at_ + r.2.1, r.2.2)
theorem undoL_nil (v : Bool) : undoL v [] = ([], 0, 0) := rfl
theorem undoL_bad (v : Bool) (l : List UInt8) (h : l ≠ []) (e : Int) (hs : stepL v l = .inl e) : undoL v l = ([], 0, e) := by
 unfold undoL
 have hp : 0 < l.length := List.length_pos_iff.2 h
 obtain ⟨f, hf⟩ : ∃ f, l.length = f + 1 := ⟨l.length - 1, by omega⟩
 rw [hf]
 simp only [undoF, if_neg h, hs]
theorem undoL_step (v : Bool) (l : List UInt8) (h : l ≠ []) (t : List UInt8) (n : Nat) (hs : stepL v l = .inr (t, n)) : undoL v l = joinU t n (undoL v (l.drop n)) := by
 unfold undoL joinU
 have hp : 0 < l.length := List.length_pos_iff.2 h
 obtain ⟨f, hf⟩ : ∃ f, l.length = f + 1 := ⟨l.length - 1, by omega⟩
 have := stepL_pos hs
 rw [hf]
 simp only [undoF, if_neg h, hs]
 rw [undoF_more v f (l.drop n) (l.drop n).length (by rw [List.length_drop]; omega) (Nat.le_refl _)]
theorem joinU_nil (r : List UInt8 × Nat × Int) (h : r.2.2 ≠ 0 → r.1 = []) : joinU [] 0 r = r := by
 obtain ⟨a, b, c⟩ := r
 unfold joinU
 by_cases hc : c = 0
 ·subst hc; simp
 ·have ha : a = [] := h hc
  subst ha; simp [hc]
theorem joinU_join (a b : List UInt8) (m n : Nat) (r : List UInt8 × Nat × Int) : joinU a m (joinU b n r) = joinU (a ++ b) (m + n) r := by
 obtain ⟨x, y, z⟩ := r
 unfold joinU
 by_cases hz : z = 0
 ·subst hz; simp; omega
 ·simp [hz]; omega
theorem undoF_shape (v : Bool) (f : Nat) : ∀ l, (undoF v f l).2.2 ≠ 0 → (undoF v f l).1 = [] := by
 induction f with
 | zero => intro l h; rfl
 | succ f ih =>
  intro l h
  simp only [undoF] at h ⊢
  split
  ·rfl
  ·rename_i hl
   rw [if_neg hl] at h
   cases hs : stepL v l with
   | inl e => rfl
   | inr q =>
    obtain ⟨t, n⟩ := q
    simp only [hs] at h ⊢
    by_cases hr : (undoF v f (l.drop n)).2.2 = 0
    ·simp [hr] at h
    ·simp [hr]
theorem undoL_shape (v : Bool) (l : List UInt8) : (undoL v l).2.2 ≠ 0 → (undoL v l).1 = [] := undoF_shape v _ l
end
end Go.Proofs.Ythifddkmbjnncaa
