/-
  Trees: a node told, a node's kids: plain.
-/
import Derived.Test.YtmkgajdgnmolkaaGreatT1
import Derived.Test.YtmkgajdgnmolkaaGreatT7
namespace Go.Proofs.YtmkgajdgnmolkaaGreat
open Go.RowKit Go.Shelf
def nodeV (id par kind kn : Int) (nm tx : List UInt8) (A : Option Addr) (n c : Nat) : Array Value := #[.int .i64 id, .int .i64 par, .int .i64 kind, .int .i64 kn, strV nm, strV tx, .slice A n c]
theorem nodeV_one (id par kind kn : Int) (nm tx : List UInt8) (A : Option Addr) (n c : Nat) : (nodeV id par kind kn nm tx A n c).all (·.oneCell') = true := by simp [nodeV, strV, Value.oneCell']
def kidA (L : List RowD) (id n : Int) : Int × Bool := match findL L id with
 | none => (0, false)
 | some k => if n < 0 then (0, false) else match (kidsL L k)[n.toNat]? with
  | none => (0, false)
  | some i => match L[i]? with
   | none => (0, false)
   | some r => (r.id, true)
theorem offs_row : ∀ (F : Fo) (lv : Int) (b n i : Nat), (offs b F)[n]? = some i → ∃ r, (F.flat lv)[i - b]? = some r ∧ b ≤ i ∧ F.roots[n]? = some r.id
 | .nil, _, _, _, _, h => by simp [offs] at h
 | .cons id d ks r, lv, b, 0, i, h => by
  simp [offs] at h
  subst h
  exact ⟨⟨id, d.at lv⟩, by rw [Nat.sub_self]; rfl, Nat.le_refl _, rfl⟩
 | .cons id d ks r, lv, b, n + 1, i, h => by
  simp only [offs, List.getElem?_cons_succ] at h
  obtain ⟨z, h1, h2, h3⟩ := offs_row r lv (b + 1 + ks.cnt) n i h
  refine ⟨z, ?_, by omega, by simpa [Fo.roots] using h3⟩
  rw [Fo.flat, show i - b = (ks.cnt + (i - (b + 1 + ks.cnt))) + 1 by omega, List.getElem?_cons_succ, List.getElem?_append_right (by rw [Fo.flat_len]; omega), Fo.flat_len, Nat.add_sub_cancel_left]
  exact h1
def kidE (kids : List Int) (n : Int) : Int × Bool := if n < 0 then (0, false) else match kids[n.toNat]? with
 | none => (0, false)
 | some x => (x, true)
theorem kid_stand {f : Fo} {p lv : Int} {d : NodeD} {ks : Fo} {A B : List RowD} (hs : Stand f p lv d ks A B) (n : Int) : kidA (f.flat 0) p n = kidE ks.roots n := by
 unfold kidA kidE
 rw [hs.find]
 simp only
 rw [hs.kids]
 split
 ·rfl
 ·cases h : (offs (A.length + 1) ks)[n.toNat]? with
  | none =>
   have hl := List.getElem?_eq_none_iff.1 h
   rw [offs_len] at hl
   rw [List.getElem?_eq_none hl]
  | some i =>
   obtain ⟨r, h1, h2, h3⟩ := offs_row ks (lv + 1) (A.length + 1) n.toNat i h
   have hi : (f.flat 0)[i]? = some r := by
    have hlt : i - (A.length + 1) < (ks.flat (lv + 1)).length := (List.getElem?_eq_some_iff.1 h1).1
    rw [hs.flat, List.getElem?_append_right (by omega), show i - A.length = (i - (A.length + 1)) + 1 by omega, List.getElem?_cons_succ, List.getElem?_append_left hlt]
    exact h1
   simp only [hi, h3]
def NodeP (w : World) (i p k n : Int) (nm tx : List UInt8) (l : List AttrD) (b : Bool) (er : Ending) (w' : World) : Prop := ∃ A c, er = .returned (.tuple #[.agg (nodeV i p k n nm tx A l.length c), .bool b]) ∧ AttrsAt w' w'.heap.size A l ∧ Below w.heap.size w w'
def KidP (w : World) (a : Int × Bool) (er : Ending) (w' : World) : Prop := er = .returned (.tuple #[.int .i64 a.1, .bool a.2]) ∧ w = w'
theorem kids_any {t : Nat} {f : Fo} {next : Int} {M : Nat → Prop} {w : World} (h : TreeM M t f next w) {id : Int} (hw : wfI id) (n : Int) : Calls Tryz.prog 25 #[.pointer (some ⟨t, 0, none⟩), .int .i64 id, .int .i64 n] w (KidP w (kidA (f.flat 0) id n)) := by
 have hi := h.inv
 obtain ⟨_, _, h, _⟩ := h
 cases he : f.ent 0 id with
 | none =>
  have hf := find_ent he
  unfold kidA
  rw [hf]
  exact Kid_no h n hw he
 | some e =>
  obtain ⟨lv, ks, A0, B0, hs, hkr, _, _, _, _, _⟩ := hi.stand he
  rw [kid_stand hs, ← hkr]
  unfold kidE
  by_cases hn : n < 0
  ·rw [if_pos hn]
   exact Kid_out h n hw he (.inl hn)
  ·rw [if_neg hn]
   cases hx : e.kids[n.toNat]? with
   | none =>
    have := List.getElem?_eq_none_iff.1 hx
    exact Kid_out h n hw he (.inr (by omega))
   | some x =>
    have := Kid_yes h n.toNat x hw he hx
    rw [show ((n.toNat : Nat) : Int) = n by omega] at this
    exact this
end Go.Proofs.YtmkgajdgnmolkaaGreat
