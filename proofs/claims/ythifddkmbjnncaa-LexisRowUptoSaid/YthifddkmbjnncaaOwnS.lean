/-
  Rows of structs of a call's own: their cells, one more element at the end, one cell written.
-/
import Derived.Test.YthifddkmbjnncaaItems
import Derived.Test.YthifddkmbjnncaaNames
import Derived.Laws.OwnMore
namespace Go.Proofs.Ythifddkmbjnncaa
open Go.RowKit

/-! Rows laid out flat. -/
theorem flat_length {α β : Type} (f : α → List β) (n : Nat) (hf : ∀ a, (f a).length = n) : ∀ l : List α, (l.flatMap f).length = l.length * n
  | [] => by simp
  | a :: l => by rw [List.flatMap_cons, List.length_append, hf, flat_length f n hf l, List.length_cons, Nat.add_mul]; omega
theorem flat_get {α β : Type} (f : α → List β) (n : Nat) (hf : ∀ a, (f a).length = n) : ∀ (l : List α) (k j : Nat) (a : α), l[k]? = some a → j < n → (l.flatMap f)[k * n + j]? = (f a)[j]?
  | [], k, j, a, h, _ => by simp at h
  | b :: l, 0, j, a, h, hj => by
    simp at h; subst h
    rw [List.flatMap_cons, List.getElem?_append_left (by rw [hf]; omega)]
    simp
  | b :: l, k + 1, j, a, h, hj => by
    rw [List.flatMap_cons, List.getElem?_append_right (by rw [hf, Nat.add_mul]; omega)]
    have e : (k + 1) * n + j - (f b).length = k * n + j := by rw [hf, Nat.add_mul]; omega
    rw [e]
    exact flat_get f n hf l k j a (by simpa using h) hj
theorem flat_set {α β : Type} (f : α → List β) (n : Nat) (hf : ∀ a, (f a).length = n) (l : List α) (k j : Nat) (a a' : α) (v : β) (h : l[k]? = some a) (hj : j < n) (hs : f a' = (f a).set j v) :
    (l.flatMap f).set (k * n + j) v = (l.set k a').flatMap f := by
  apply List.ext_getElem?
  intro i
  rw [List.getElem?_set]
  have hk : k < l.length := (List.getElem?_eq_some_iff.1 h).1
  have hlen := flat_length f n hf l
  have hlen' := flat_length f n hf (l.set k a')
  rw [List.length_set] at hlen'
  by_cases hi : i < l.length * n
  · have hn : 0 < n := by omega
    obtain ⟨q, r, hr, rfl⟩ : ∃ q r, r < n ∧ i = q * n + r := ⟨i / n, i % n, Nat.mod_lt _ hn, by rw [Nat.mul_comm]; exact (Nat.div_add_mod i n).symm⟩
    have hq : q < l.length := by
      rcases Nat.lt_or_ge q l.length with h | h
      · exact h
      · have := Nat.mul_le_mul_right n h; omega
    by_cases hqk : q = k
    · subst hqk
      have e1 : (l.set q a')[q]? = some a' := by rw [List.getElem?_set]; simp [hq]
      rw [flat_get f n hf _ q r a' e1 hr, flat_get f n hf l q r a h hr, hs, List.getElem?_set]
      by_cases hrj : j = r
      · subst hrj
        rw [if_pos rfl, if_pos rfl, hf, if_pos hj, hlen]
        rw [if_pos hi]
      · rw [if_neg (by omega), if_neg hrj]
    · have e1 : (l.set k a')[q]? = l[q]? := by rw [List.getElem?_set]; rw [if_neg (Ne.symm hqk)]
      have e2 : l[q]? = some l[q] := List.getElem?_eq_getElem hq
      rw [flat_get f n hf _ q r _ (e1.trans e2) hr, flat_get f n hf l q r _ e2 hr]
      rw [if_neg]
      intro he
      rcases Nat.lt_or_ge q k with hlt | hge
      · have := Nat.mul_le_mul_right n (show q + 1 ≤ k by omega)
        rw [Nat.add_mul] at this; omega
      · have := Nat.mul_le_mul_right n (show k + 1 ≤ q by omega)
        rw [Nat.add_mul] at this; omega
  · have r1 : ((l.set k a').flatMap f)[i]? = none := List.getElem?_eq_none (by rw [hlen']; omega)
    have r2 : (l.flatMap f)[i]? = none := List.getElem?_eq_none (by rw [hlen]; omega)
    rw [r1, r2]
    by_cases he : k * n + j = i
    · rw [if_pos he, if_neg (by rw [hlen]; omega)]
    · rw [if_neg he]

/-! What an owned row reads as. -/
theorem own_flat {α : Type} {w : World} {B : Nat} {e : TypeId} {n : Nat} {ad : Option Addr} {c : Nat} {l : List α} (f : α → List Value) (hf : ∀ a, (f a).length = n) (h : w.ownsRow B e n (.slice ad l.length c) l.length (l.flatMap f)) :
    0 < l.length → ∃ g, ad = some ⟨g, 0, none⟩ ∧ B ≤ g ∧ g < w.heap.size ∧ (∃ cur, w.heap[g]? = some (.cells cur e (0, 0))) ∧ ∀ k a j u, l[k]? = some a → (f a)[j]? = some u → w.cell? ((⟨g, 0, none⟩ : Addr).add (k * n + j)) = some u := by
  intro hl
  rcases h.2 with ⟨_, h0⟩ | ⟨g, cap, cur, hv, hb, hc, _⟩
  · omega
  · injection hv with hv h2 h3
    subst hv
    refine ⟨g, rfl, hb, (Array.getElem?_eq_some_iff.1 hc).1, ⟨cur, hc⟩, fun k a j u hk hu => ?_⟩
    have hj : j < n := by rw [← hf a]; exact (List.getElem?_eq_some_iff.1 hu).1
    refine h.cells (g := g) rfl _ u ?_
    rw [flat_get f n hf l k j a hk hj]; exact hu

/-- The block that a row of the call's own stands in is of the row's own type. -/
theorem own_type {w : World} {B : Nat} {e : TypeId} {size : Nat} {v : Value} {n : Nat} {xs : List Value} (h : w.ownsRow B e size v n xs) : ∀ g, v.ownBlock = some g → B ≤ g ∧ g < w.heap.size ∧ ∃ cur, w.heap[g]? = some (.cells cur e (0, 0)) := by
  intro g hg
  rcases h.2 with ⟨rfl, _⟩ | ⟨g', cap, cur, rfl, hb, hc, _⟩
  · cases hg
  · injection hg with hg
    have hg : g' = g := hg
    subst hg
    exact ⟨hb, (Array.getElem?_eq_some_iff.1 hc).1, cur, hc⟩

/-- Rows of two types never share a block. -/
theorem own_apart {w : World} {B B' : Nat} {e e' : TypeId} {size size' : Nat} {v v' : Value} {n n' : Nat} {xs xs' : List Value} (h : w.ownsRow B e size v n xs) (h' : w.ownsRow B' e' size' v' n' xs') (he : e ≠ e') : v.ownBlock = none ∨ v.ownBlock ≠ v'.ownBlock := by
  cases hv : v.ownBlock with
  | none => exact .inl rfl
  | some g =>
    refine .inr fun hg => ?_
    obtain ⟨_, _, cur, hc⟩ := own_type h g hv
    obtain ⟨_, _, cur', hc'⟩ := own_type h' g hg.symm
    rw [hc] at hc'
    injection hc' with hc'
    injection hc' with _ hc'
    exact he hc'

/-- append(s, x), x a struct of 'size' cells, to a slice that is the call's own. -/
theorem appendS {P : Program} {w : World} {ops : Array Oper} {rest : List Oper} {o : Oper} {a : Act} {Q : Exit → Act → World → Prop} (hgd : o.guard = none) (s x : Operand) (t : TypeId)
    (ho : o.op = .call { callee := .builtin .append, args := #[s, x], argTypes := #[t, t] })
    (B : Nat) (e : TypeId) (z : Value) (size bytes : Nat) (ht : P.underlying t = some (.slice e)) (hi : (P.info? e).map (fun i => (i.zero, i.size, i.bytes)) = some (some z, size, bytes))
    (hzs : z.cells.size = size) (hsz : 0 < size)
    (v : Value) (n : Nat) (xs : List Value) (news : List Value) (hs : a.eval s = v) (hown : w.ownsRow B e size v n xs) (hB : B ≤ w.heap.size)
    (X : Nat) (hx : a.eval x = .slice (some ⟨X, 0, none⟩) 1 1) (hX : X = w.heap.size) (hnl : news.length = size) (hu : ∀ u ∈ news, u.oneCell' = true) (hn : n < 4294967296) (hby : bytes ≤ 10000)
    (h : ∀ ad c w', w'.ownsRow B e size (.slice ad (n + 1) c) (n + 1) (xs ++ news) → Below B w w' → w.heap.size < w'.heap.size → (w.alloc (.cells news.toArray e)).grownBy w' v.ownBlock → wpList P ops Q rest (a.put o.dst (.slice ad (n + 1) c)) w') :
    wpList P ops Q (o :: rest) a (w.alloc (.cells news.toArray e)) := by
  subst hX
  obtain ⟨i0, hi0, hz0, hz1, hz2⟩ := info_parts hi
  refine wpList_append_own _ hgd s x t ho B e i0 z size bytes ht hi0 hz0 hz1 hz2 hzs hsz v n xs hs (hown.alloc _) ⟨w.heap.size, 0, none⟩ 1 1 news hx (by rw [hnl]; omega) ?_ hu
    (by unfold maxLen; omega) ?_ (by simp; omega) ?_
  · intro j u hj
    have e : (⟨w.heap.size, 0, none⟩ : Addr).add j = ⟨w.heap.size, j, none⟩ := by unfold Addr.add; split <;> simp_all
    have hjl : j < news.length := (List.getElem?_eq_some_iff.1 hj).1
    rw [e, World.cell?_alloc_at _ _ _ _ (by simp)]
    simp [hj]
  · have : (n + 1) * bytes ≤ 4294967296 * 10000 := Nat.mul_le_mul (by omega) hby
    omega
  · intro v' w' hown' hg _
    obtain ⟨ad, c, rfl⟩ : ∃ ad c, v' = .slice ad (n + 1) c := by
      rcases hown'.2 with ⟨_, h0⟩ | ⟨g, c, cur, hv, _⟩
      · omega
      · exact ⟨_, c, hv⟩
    have hsz' := hg.size
    simp at hsz'
    exact h ad c w' hown' (((Below.refl B w).alloc hB _).grown hg (by simp; omega) (fun k hk => (hown.lt k hk).1)) (by omega) hg

/-- A row stands where what grows is a row of another type, or nothing was known of it. -/
theorem own_grown {w w' : World} {B B' : Nat} {e e' : TypeId} {size size' : Nat} {v v' : Value} {n n' : Nat} {xs xs' : List Value} (h : w.ownsRow B e size v n xs) (h' : w.ownsRow B' e' size' v' n' xs') (he : e ≠ e') (hg : w.grownBy w' v'.ownBlock) : w'.ownsRow B e size v n xs :=
  h.kept hg (own_apart h h' he)

/-- One cell of a row of the call's own is written. -/
theorem own_stored {w : World} {B : Nat} {e : TypeId} {size g n c : Nat} {xs : List Value} (h : w.ownsRow B e size (.slice (some ⟨g, 0, none⟩) n c) n xs) (j : Nat) (u : Value) : (w.setCell ⟨g, j, none⟩ u).ownsRow B e size (.slice (some ⟨g, 0, none⟩) n c) n (xs.set j u) := (h.stored j u).1
end Go.Proofs.Ythifddkmbjnncaa
