/-
  Texts of this claim, joined (by a program of the claim's author): GAtt, GAtS, GAttP, GGrC, GGrow, Parts, Place, Check, GLoad, GFor.
-/
import Derived.Test.YtmkgajdgnmolkaaGreatT1
import Derived.Test.YtmkgajdgnmolkaaGreatT4
import Derived.Test.YtmkgajdgnmolkaaGreatT2
import Derived.Sort.Walk0
import Derived.Test.YtmkgajdgnmolkaaGreatT3
import Derived.Deep.RegionHeld3
import Derived.Deep.Cut
import Derived.Deep.QuietTactic
import Derived.BigQuiet
namespace Go.Proofs.YtmkgajdgnmolkaaGreat
set_option maxRecDepth 100000
set_option maxHeartbeats 16000000
section
open Go.RowKit Go.Shelf
def Ent.setAttrs (e : Ent) (l : List AttrD) : Ent := { e with d := { e.d with attrs := l } }
def delAttrG (g : Int → Option Ent) (id : Int) (name : List UInt8) (k : Nat) : Int × (Int → Option Ent) := match g id with
 | none => (60, g)
 | some e => if e.d.kind ≠ 1 then (68, g) else if foundB e.d.attrs name k = true then (0, fset g id (some (e.setAttrs (e.d.attrs.eraseIdx k)))) else (63, g)
def FindG (g : Int → Option Ent) (id : Int) (name : List UInt8) (k : Nat) : Prop := ∀ e, g id = some e → e.d.kind = 1 → FindAt e.d.attrs name k
section
variable {w : World} {t mb : Nat} {y : Lay} {g : Int → Option Ent} {root next : Int} {n : Nat}
theorem found_lt {l : List AttrD} {name : List UInt8} {k : Nat} (h : foundB l name k = true) : k < l.length := by
 unfold foundB at h
 cases ha : l[k]? with
 | none => rw [ha] at h; cases h
 | some a => exact (List.getElem?_eq_some_iff.1 ha).1
theorem DelAttr_any (h : TreeAt w t mb y g root next n) {id : Int} (hw : wfI id) (name : List UInt8) (hal : ∀ id e, g id = some e → e.d.attrs.length ≤ 1000000) :
  Calls Tryz.prog 43 #[.pointer (some ⟨t, 0, none⟩), .int .i64 id, strV name] w fun er w' => ∃ k, FindG g id name k ∧ er = .returned (.int .i64 (delAttrG g id name k).1) ∧ TP t mb y g w (delAttrG g id name k).2 root next n w' := by
 have stay : ∀ w', Below w.heap.size w w' → TP t mb y g w g root next n w' := fun w' hb => ⟨mb, y, h.below hb, Grows.of_below hb⟩
 have STAY := Lib.hid stay
 have HH := Lib.hid h
 clear stay
 cases he : g id with
 | none =>
  have hr : ∀ k, delAttrG g id name k = (60, g) := fun k => by unfold delAttrG; rw [he]
  have hf : Hid (FindG g id name 0) := fun e h1 => by rw [he] at h1; cases h1
  have HR := Lib.hid hr
  have HE := Lib.hid he
  clear h hr he
  go_enter Tryz.func43, Tryz.ntmps43
  go_wp2_with (refine (element_no HH.out hw HE.out).mono ?_; rintro e w2 ⟨rfl, rfl⟩)
  go_ret
  exact ⟨0, hf.out, by rw [HR.out]; rfl, by rw [HR.out]; exact STAY.out _ (Below.refl _ _)⟩
 | some e =>
  by_cases hk : e.d.kind = 1
  ·have HE := Lib.hid he
   have HK := Lib.hid hk
   have HAL : Hid (e.d.attrs.length ≤ 1000000) := hal _ _ he
   clear h he hk hal
   go_enter Tryz.func43, Tryz.ntmps43
   go_wp2_with fail
   refine (element_yes HH.out hw HE.out HK.out).mono ?_
   rintro e1 w2 ⟨rfl, rfl⟩
   go_wp2_with fail
   refine (find_any HH.out HE.out HAL.out name).mono ?_
   rintro e1 w2 ⟨k, hfk, rfl, hb2⟩
   have HF : Hid (FindG g id name k) := fun e' h1 _ => by rw [HE.out] at h1; injection h1 with h1; rw [← h1]; exact hfk
   clear hfk
   cases hfb : foundB e.d.attrs name k with
   | false =>
    have hr : Hid (delAttrG g id name k = (63, g)) := by show _ = _; unfold delAttrG; rw [HE.out]; simp [HK.out, hfb]
    clear hfb
    go_wp2_with fail
    go_ret
    exact ⟨k, HF.out, by rw [hr.out]; rfl, by rw [hr.out]; exact STAY.out _ hb2⟩
   | true =>
    have hr : Hid (delAttrG g id name k = (0, fset g id (some (e.setAttrs (e.d.attrs.eraseIdx k))))) := by show _ = _; unfold delAttrG; rw [HE.out]; simp [HK.out, hfb]
    have hkl := found_lt hfb
    have H2 := Lib.hid (HH.out.below hb2)
    have HB2 := Lib.hid hb2
    have c6 := H2.out.n6 HE.out
    have k0 : (0 : Int) ≤ (k : Int) := by omega
    have k1 : (k : Int) ≤ 1000000 := by have := HAL.out; omega
    clear hfb hb2
    go_wp2_with fail
    refine (Delete_att _ _ k _ (H2.out.att _ _ HE.out) HAL.out hkl).mono ?_
    rintro e1 w3 ⟨v', rfl, hr3, hg3, hf3⟩
    obtain ⟨q0, q1, q2⟩ := H2.out.set_attrs HE.out hr3 hg3 hf3
    have f7 := cell_row q0 6 _ rfl
    have f8 := free_row q0 6
    have HQ1 := Lib.hid q1
    have HQ2 := Lib.hid q2
    clear q0 q1 q2
    obtain ⟨pa, pn, pc, hv'⟩ : ∃ pa pn pc, v' = .slice pa pn pc := by
     rcases hr3.2 with ⟨h, _⟩ | ⟨_, _, _, h, _⟩
     ·exact ⟨_, _, _, h⟩
     ·exact ⟨_, _, _, h⟩
    clear hr3 hg3 hf3
    subst hv'
    go_wp2_with fail
    go_ret
    refine ⟨k, HF.out, by rw [hr.out]; rfl, ?_⟩
    rw [hr.out]
    exact ⟨mb, _, HQ1.out, (Grows.of_below HB2.out).trans HQ2.out⟩
  ·have hr : ∀ k, delAttrG g id name k = (68, g) := fun k => by unfold delAttrG; rw [he]; simp [hk]
   have hf : Hid (FindG g id name 0) := fun e' h1 h2 => by rw [he] at h1; injection h1 with h1; rw [← h1] at h2; exact absurd h2 hk
   have HR := Lib.hid hr
   have HE := Lib.hid he
   have HK := Lib.hid hk
   clear h hr he hk
   go_enter Tryz.func43, Tryz.ntmps43
   go_wp2_with (refine (element_bad HH.out hw HE.out HK.out).mono ?_; rintro e w2 ⟨rfl, rfl⟩)
   go_ret
   exact ⟨0, hf.out, by rw [HR.out]; rfl, by rw [HR.out]; exact STAY.out _ (Below.refl _ _)⟩
end
end
section
open Go.RowKit Go.Shelf
def setAttrG (g : Int → Option Ent) (id : Int) (name value : List UInt8) (k : Nat) : Int × (Int → Option Ent) := match g id with
 | none => (60, g)
 | some e => if e.d.kind ≠ 1 then (68, g) else if nameL name = false then (63, g) else if textE value ≠ 0 then (textE value, g) else
  if foundB e.d.attrs name k = true then (0, fset g id (some (e.setAttrs (e.d.attrs.set k ⟨name, value⟩)))) else
  if 20 ≤ e.d.attrs.length then (67, g) else (0, fset g id (some (e.setAttrs (e.d.attrs.take k ++ ⟨name, value⟩ :: e.d.attrs.drop k))))
section
variable {w : World} {t mb : Nat} {y : Lay} {g : Int → Option Ent} {root next : Int} {n : Nat}
theorem TreeAt.set_value (h : TreeAt w t mb y g root next n) {p : Int} {e : Ent} (he : g p = some e) {k : Nat} {a : AttrD} (hk : e.d.attrs[k]? = some a) (value : List UInt8) :
  ∃ b c, y.att p = .slice (some ⟨b, 0, none⟩) e.d.attrs.length c ∧ w.cell? ⟨b, k * 2 + 1, none⟩ = some (strV a.value) ∧ w.frozen? ⟨b, k * 2 + 1, none⟩ = false ∧
   TreeAt (w.setCell ⟨b, k * 2 + 1, none⟩ (strV value)) t mb (layA y p (y.att p)) (fset g p (some (e.setAttrs (e.d.attrs.set k { a with value := value })))) root next n ∧
   Grows (Mine t mb y g) (Mine t mb (layA y p (y.att p)) (fset g p (some (e.setAttrs (e.d.attrs.set k { a with value := value }))))) w (w.setCell ⟨b, k * 2 + 1, none⟩ (strV value)) := by
 have hrow := h.att p e he
 have hkl := (List.getElem?_eq_some_iff.1 hk).1
 have hno := h.nb_not he p e he
 have hnd := h.node p e he
 obtain ⟨A, c, hv, _, _, hA0, hA1⟩ := row_shape hrow
 cases A with
 | none => have := (hA0 rfl).1; omega
 | some ad =>
  obtain ⟨b, rfl, hbl⟩ := hA1 ad rfl
  have hrow' : w.ownsRow 0 66 2 (.slice (some ⟨b, 0, none⟩) e.d.attrs.length c) e.d.attrs.length (e.d.attrs.flatMap cellsA) := by rw [← hv]; exact hrow
  have hob : (y.att p).ownBlock = some b := by rw [hv]; rfl
  obtain ⟨cur, hcur⟩ := row_type hrow hob
  have hso : ∀ x, x ≠ b → (w.setCell ⟨b, k * 2 + 1, none⟩ (strV value)).heap[x]? = w.heap[x]? := fun x hne => Below.heap_setCell _ _ _ _ hne
  have hst := own_stored hrow' (k * 2 + 1) (strV value)
  rw [flat_set cellsA 2 cellsA_length e.d.attrs k 1 a { a with value := value } (strV value) hk (by decide) rfl] at hst
  have hnb : y.nb p ≠ b := fun e' => hno.1 (by rw [hob, e'])
  obtain ⟨q1, q2⟩ := h.turn_node he (e.setAttrs (e.d.attrs.set k { a with value := value })) (y.att p) (y.kid p) (w' := w.setCell ⟨b, k * 2 + 1, none⟩ (strV value))
   (fun x _ _ hx _ => hso x (fun e' => hx (by rw [hob, e']))) ((hso _ hnb).trans hnd) (by
    show (w.setCell ⟨b, k * 2 + 1, none⟩ (strV value)).ownsRow 0 66 2 (y.att p) (e.d.attrs.set k { a with value := value }).length _
    rw [hv, List.length_set]; exact hst)
   (row_block (h.kid p e he) fun x hx => hso x (fun e' => h.rows_not p e p e he he b hob (by rw [hx, e']))) (fun _ hb => .inl hb) (fun _ hb => .inl hb)
  refine ⟨b, c, hv, own_cell hrow' (k * 2 + 1) _ (flat_get cellsA 2 cellsA_length _ k 1 a hk (by decide)), free_row hcur _, q1, ⟨rfl, rfl, rfl, by simp, fun x _ hm => hso x (fun e' => hm (.inr (.inr ⟨p, e, he, .inr (.inl (by rw [hob, e']))⟩)))⟩, q2⟩
theorem SetAttr_any (h : TreeAt w t mb y g root next n) {id : Int} (hw : wfI id) (name value : List UInt8) (hn : name.length ≤ maxLen) (hv : value.length ≤ maxLen) (hal : ∀ id e, g id = some e → e.d.attrs.length ≤ 1000000) :
  Calls Tryz.prog 42 #[.pointer (some ⟨t, 0, none⟩), .int .i64 id, strV name, strV value] w fun er w' => ∃ k, FindG g id name k ∧ er = .returned (.int .i64 (setAttrG g id name value k).1) ∧ TP t mb y g w (setAttrG g id name value k).2 root next n w' := by
 have stay : ∀ w', Below w.heap.size w w' → TP t mb y g w g root next n w' := fun w' hb => ⟨mb, y, h.below hb, Grows.of_below hb⟩
 have STAY := Lib.hid stay
 have HH := Lib.hid h
 have hs1 : (⟨name.toArray⟩ : ByteArray).size ≤ maxLen := hn
 have hs2 : (⟨value.toArray⟩ : ByteArray).size ≤ maxLen := hv
 clear stay
 cases he : g id with
 | none =>
  have hr : ∀ k, setAttrG g id name value k = (60, g) := fun k => by unfold setAttrG; rw [he]
  have hf : Hid (FindG g id name 0) := fun e h1 => by rw [he] at h1; cases h1
  have HR := Lib.hid hr
  have HE := Lib.hid he
  clear h hr he
  go_enter Tryz.func42, Tryz.ntmps42
  go_wp2_with (refine (element_no HH.out hw HE.out).mono ?_; rintro e w2 ⟨rfl, rfl⟩)
  go_ret
  exact ⟨0, hf.out, by rw [HR.out]; rfl, by rw [HR.out]; exact STAY.out _ (Below.refl _ _)⟩
 | some e =>
  by_cases hk : e.d.kind = 1
  ·have HE := Lib.hid he
   have HK := Lib.hid hk
   have HAL : Hid (e.d.attrs.length ≤ 1000000) := hal _ _ he
   obtain ⟨nm, hnm⟩ : ∃ nm, Hid (nameL (⟨name.toArray⟩ : ByteArray).data.toList = nm) := ⟨_, rfl⟩
   obtain ⟨r, hr⟩ : ∃ r, Hid (textE (⟨value.toArray⟩ : ByteArray).data.toList = r) := ⟨_, rfl⟩
   have hnm' : Hid (nameL name = nm) := hnm
   have hr' : Hid (textE value = r) := hr
   have hfx : Hid (∃ k, FindG g id name k) := by
    refine Classical.byContradiction fun hno => ?_
    have hbs : ∀ m, ∃ k, m ≤ e.d.attrs.length → k ≤ m ∧ (∀ (j : Nat) (a : AttrD), j + 1 = k → e.d.attrs[j]? = some a → cmpN a.name name < 0) ∧ (k < m → ∀ a : AttrD, e.d.attrs[k]? = some a → 0 ≤ cmpN a.name name) := by
     intro m
     induction m with
     | zero => exact ⟨0, fun _ => ⟨Nat.le_refl _, fun j a h => by omega, fun h => by omega⟩⟩
     | succ m ih =>
      obtain ⟨k, hk'⟩ := ih
      by_cases hm : m + 1 ≤ e.d.attrs.length
      ·obtain ⟨q1, q2, q3⟩ := hk' (by omega)
       by_cases hkm : k < m
       ·exact ⟨k, fun _ => ⟨by omega, q2, fun _ => q3 hkm⟩⟩
       ·have hkm' : k = m := by omega
        subst hkm'
        obtain ⟨a, ha⟩ : ∃ a, e.d.attrs[k]? = some a := ⟨_, List.getElem?_eq_getElem (by omega)⟩
        by_cases hneg : cmpN a.name name < 0
        ·exact ⟨k + 1, fun _ => ⟨Nat.le_refl _, fun j b hj hb => by
          have : j = k := by omega
          subst this
          rw [ha] at hb
          injection hb with hb
          rw [← hb]; exact hneg, fun h => by omega⟩⟩
        ·exact ⟨k, fun _ => ⟨by omega, q2, fun _ b hb => by rw [ha] at hb; injection hb with hb; rw [← hb]; omega⟩⟩
      ·exact ⟨0, fun h => absurd h hm⟩
    obtain ⟨k, hk'⟩ := hbs e.d.attrs.length
    obtain ⟨q1, q2, q3⟩ := hk' (Nat.le_refl _)
    refine hno ⟨k, fun e' h1 _ => ?_⟩
    rw [he] at h1
    injection h1 with h1
    rw [← h1]
    exact ⟨q1, q2, fun a ha => q3 (List.getElem?_eq_some_iff.1 ha).1 a ha⟩
   clear h he hk hal hn hv
   unfold strV
   cases nm with
   | false =>
    have hg : Hid (∀ k, setAttrG g id name value k = (63, g)) := fun k => by unfold setAttrG; rw [HE.out]; simp [HK.out, hnm'.out]
    go_enter Tryz.func42, Tryz.ntmps42
    go_wp2_with fail
    refine (element_yes HH.out hw HE.out HK.out).mono ?_
    rintro e1 w2 ⟨rfl, rfl⟩
    go_wp2_with fail
    refine (Name_any ⟨name.toArray⟩ _ hs1 false hnm).mono ?_
    rintro e1 w2 ⟨rfl, hb2⟩
    go_wp2_with fail
    go_ret
    obtain ⟨k, hk⟩ := hfx.out
    exact ⟨k, hk, by rw [hg.out]; rfl, by rw [hg.out]; exact STAY.out _ hb2⟩
   | true =>
    by_cases hr0 : r = 0
    ·subst hr0
     go_enter Tryz.func42, Tryz.ntmps42
     go_wp2_with fail
     refine (element_yes HH.out hw HE.out HK.out).mono ?_
     rintro e1 w2 ⟨rfl, rfl⟩
     go_wp2_with fail
     refine (Name_any ⟨name.toArray⟩ _ hs1 true hnm).mono ?_
     rintro e1 w2 ⟨rfl, hb2⟩
     go_wp2_with fail
     refine (text_any ⟨value.toArray⟩ _ hs2 0 hr).mono ?_
     rintro e1 w3 ⟨rfl, hb3⟩
     have hb23 := hb2.trans (hb3.mono hb2.size)
     have H3 := Lib.hid (HH.out.below hb23)
     have HB3 := Lib.hid hb23
     clear hb2 hb3 hb23
     go_wp2_with fail
     refine (find_any H3.out HE.out HAL.out name).mono ?_
     rintro e1 w4 ⟨k, hfk, rfl, hb4⟩
     have HF : Hid (FindG g id name k) := fun e' h1 _ => by rw [HE.out] at h1; injection h1 with h1; rw [← h1]; exact hfk
     have hkle := hfk.1
     have hb34 := HB3.out.trans (hb4.mono HB3.out.size)
     have H4 := Lib.hid (HH.out.below hb34)
     have HB4 := Lib.hid hb34
     have c6 := H4.out.n6 HE.out
     have k0 : (0 : Int) ≤ (k : Int) := by omega
     have k1 : (k : Int) ≤ 1000000 := by have := HAL.out; omega
     clear hb4 hb34 hfk
     obtain ⟨fb, hfb⟩ : ∃ fb, foundB e.d.attrs name k = fb := ⟨_, rfl⟩
     rw [hfb]
     cases fb with
     | true =>
      have hkl := found_lt hfb
      obtain ⟨a, ha⟩ : ∃ a, e.d.attrs[k]? = some a := ⟨_, List.getElem?_eq_getElem hkl⟩
      have han : a.name = name := by unfold foundB at hfb; rw [ha] at hfb; simpa using hfb
      have hg : Hid (setAttrG g id name value k = (0, fset g id (some (e.setAttrs (e.d.attrs.set k { a with value := value }))))) := by
       show _ = _
       have e0 : ({ a with value := value } : AttrD) = ⟨name, value⟩ := by rw [← han]
       rw [e0]
       unfold setAttrG; rw [HE.out]; simp [HK.out, hnm'.out, hr'.out, hfb]
      obtain ⟨b, c, hab, hc, hfz, q1, q2⟩ := H4.out.set_value HE.out ha value
      rw [hab] at c6
      have HQ1 := Lib.hid q1
      have HQ2 := Lib.hid q2
      have hkl' : (k : Int) < (e.d.attrs.length : Int) := by omega
      unfold strV at hc
      clear q1 q2 hab hfb hkle ha han
      go_wp2_with fail
      go_ret
      refine ⟨k, HF.out, by rw [hg.out]; rfl, ?_⟩
      rw [hg.out]
      exact ⟨mb, _, HQ1.out, (Grows.of_below HB4.out).trans HQ2.out⟩
     | false =>
      by_cases h20 : 20 ≤ e.d.attrs.length
      ·have hg : Hid (setAttrG g id name value k = (67, g)) := by
        show _ = _
        unfold setAttrG; rw [HE.out]; simp [HK.out, hnm'.out, hr'.out, hfb, h20]
       have h20' : (20 : Int) ≤ (e.d.attrs.length : Int) := by omega
       obtain ⟨A, c, hat, _⟩ := row_shape (H4.out.att _ _ HE.out)
       rw [hat] at c6
       clear hat hfb hkle
       go_wp2_with fail
       go_ret
       exact ⟨k, HF.out, by rw [hg.out]; rfl, by rw [hg.out]; exact STAY.out _ HB4.out⟩
      ·have hg : Hid (setAttrG g id name value k = (0, fset g id (some (e.setAttrs (e.d.attrs.take k ++ ⟨name, value⟩ :: e.d.attrs.drop k))))) := by
        show _ = _
        unfold setAttrG; rw [HE.out]; simp [HK.out, hnm'.out, hr'.out, hfb]; omega
       have h20' : (e.d.attrs.length : Int) < 20 := by omega
       obtain ⟨A, c, hat, _⟩ := row_shape (H4.out.att _ _ HE.out)
       rw [hat] at c6
       have HAT := Lib.hid hat
       clear hat hfb
       go_wp2_with fail
       have hb5 : Below w4.heap.size w4 (w4.alloc (.cells #[.string ⟨name.toArray⟩, .string ⟨value.toArray⟩] 66)) := (Below.refl _ w4).alloc (Nat.le_refl _) _
       have hX5 : (w4.alloc (.cells #[.string ⟨name.toArray⟩, .string ⟨value.toArray⟩] 66)).heap[w4.heap.size]? = some (.cells #[strV name, strV value] 66 (0, 0)) := heap_alloc_new w4 _
       obtain ⟨w5, hw5⟩ : ∃ w5, w4.alloc (.cells #[.string ⟨name.toArray⟩, .string ⟨value.toArray⟩] 66) = w5 := ⟨_, rfl⟩
       rw [hw5] at hb5 hX5 ⊢
       have H5 := Lib.hid (H4.out.below hb5)
       have HB5 := Lib.hid (HB4.out.trans (hb5.mono HB4.out.size))
       have hat5 := H5.out.att _ _ HE.out
       rw [HAT.out] at hat5
       have hne : (Value.slice A e.d.attrs.length c).ownBlock ≠ some w4.heap.size := by
        rw [← HAT.out]
        intro h
        have := row_lt (H4.out.att _ _ HE.out) h
        omega
       clear hw5 hb5
       refine (Insert_att _ _ k ⟨name, value⟩ w4.heap.size _ hat5 hX5 hne HAL.out hkle).mono ?_
       rintro e1 w6 ⟨v', rfl, hr6, hg6, hf6⟩
       rw [← HAT.out] at hg6 hf6
       obtain ⟨q0, q1, q2⟩ := H5.out.set_attrs HE.out hr6 hg6 hf6
       have f7 := cell_row q0 6 _ rfl
       have f8 := free_row q0 6
       have HQ1 := Lib.hid q1
       have HQ2 := Lib.hid q2
       clear q0 q1 q2
       obtain ⟨pa, pn, pc, hv'⟩ : ∃ pa pn pc, v' = .slice pa pn pc := by
        rcases hr6.2 with ⟨h, _⟩ | ⟨_, _, _, h, _⟩
        ·exact ⟨_, _, _, h⟩
        ·exact ⟨_, _, _, h⟩
       clear hr6 hg6 hf6 hat5 hX5 hne hkle
       subst hv'
       go_wp2_with fail
       go_ret
       refine ⟨k, HF.out, by rw [hg.out]; rfl, ?_⟩
       rw [hg.out]
       exact ⟨mb, _, HQ1.out, (Grows.of_below HB5.out).trans HQ2.out⟩
    ·have hg : Hid (∀ k, setAttrG g id name value k = (r, g)) := fun k => by unfold setAttrG; rw [HE.out]; simp [HK.out, hnm'.out, hr'.out, hr0]
     have hr1 : (r != 0) = true := by simpa using hr0
     go_enter Tryz.func42, Tryz.ntmps42
     go_wp2_with fail
     refine (element_yes HH.out hw HE.out HK.out).mono ?_
     rintro e1 w2 ⟨rfl, rfl⟩
     go_wp2_with fail
     refine (Name_any ⟨name.toArray⟩ _ hs1 true hnm).mono ?_
     rintro e1 w2 ⟨rfl, hb2⟩
     go_wp2_with fail
     refine (text_any ⟨value.toArray⟩ _ hs2 r hr).mono ?_
     rintro e1 w3 ⟨rfl, hb3⟩
     go_wp2_with fail
     refine (text_any ⟨value.toArray⟩ _ hs2 r hr).mono ?_
     rintro e1 w4 ⟨rfl, hb4⟩
     go_wp2_with fail
     go_ret
     obtain ⟨k, hk⟩ := hfx.out
     have hb23 := hb2.trans (hb3.mono hb2.size)
     exact ⟨k, hk, by rw [hg.out]; rfl, by rw [hg.out]; exact STAY.out _ (hb23.trans (hb4.mono hb23.size))⟩
  ·have hr : ∀ k, setAttrG g id name value k = (68, g) := fun k => by unfold setAttrG; rw [he]; simp [hk]
   have hf : Hid (FindG g id name 0) := fun e' h1 h2 => by rw [he] at h1; injection h1 with h1; rw [← h1] at h2; exact absurd h2 hk
   have HR := Lib.hid hr
   have HE := Lib.hid he
   have HK := Lib.hid hk
   clear h hr he hk
   go_enter Tryz.func42, Tryz.ntmps42
   go_wp2_with (refine (element_bad HH.out hw HE.out HK.out).mono ?_; rintro e w2 ⟨rfl, rfl⟩)
   go_ret
   exact ⟨0, hf.out, by rw [HR.out]; rfl, by rw [HR.out]; exact STAY.out _ (Below.refl _ _)⟩
end
end
section
theorem bl_irrefl (x : List UInt8) : Op.bytesLess x x = false := by
 rw [bytesLess_eq]; exact decide_eq_false (List.lt_irrefl x)
theorem bl_trans {x y z : List UInt8} (h : Op.bytesLess x y = true) (h' : Op.bytesLess y z = true) : Op.bytesLess x z = true := by
 rw [bytesLess_eq] at *
 exact decide_eq_true (List.lt_trans (of_decide_eq_true h) (of_decide_eq_true h'))
theorem bl_tri {x y : List UInt8} (h : Op.bytesLess x y = false) (h' : Op.bytesLess y x = false) : x = y := by
 rw [bytesLess_eq] at *
 have h1 := of_decide_eq_false h
 have h2 := of_decide_eq_false h'
 exact List.le_antisymm (List.not_lt.1 h2) (List.not_lt.1 h1)
theorem bl_asymm {x y : List UInt8} (h : Op.bytesLess x y = true) : Op.bytesLess y x = false := by
 cases h' : Op.bytesLess y x with
 | false => rfl
 | true => have := bl_trans h h'; rw [bl_irrefl] at this; cases this
theorem bl_ne {x y : List UInt8} (h : Op.bytesLess x y = true) : x ≠ y := by
 intro e; subst e; rw [bl_irrefl] at h; cases h
theorem bl_nil {x : List UInt8} (h : x ≠ []) : Op.bytesLess [] x = true := by
 cases x with
 | nil => exact absurd rfl h
 | cons a x => simp [Op.bytesLess]
theorem leB_not (a b : List UInt8) : leB a b = !Op.bytesLess b a := by
 unfold leB
 cases h : Op.bytesLess a b with
 | true => rw [bl_asymm h]; rfl
 | false =>
  cases h' : Op.bytesLess b a with
  | true => have := bl_ne h'; simp; exact fun e => this e.symm
  | false => rw [bl_tri h h']; simp
theorem cmpN_neg {a b : List UInt8} : cmpN a b < 0 ↔ Op.bytesLess a b = true := by
 unfold cmpN
 by_cases h : Op.bytesLess a b = true
 ·rw [if_pos h]; simp [h]
 ·rw [if_neg h]
  constructor
  ·intro h'; split at h' <;> omega
  ·intro h'; exact absurd h' h
def RiseG (l : List AttrD) : Prop := l.Pairwise fun a b => Op.bytesLess a.name b.name = true
theorem attrNames_iff : ∀ (l : List AttrD) (last : List UInt8), attrNames last l = true ↔ RiseG l ∧ (∀ a ∈ l, nameL a.name = true) ∧ ∀ a ∈ l, Op.bytesLess last a.name = true
 | [], _ => by simp [attrNames, RiseG]
 | b :: l, last => by
  unfold attrNames
  rw [Bool.and_eq_true, Bool.and_eq_true, attrNames_iff l b.name, leB_not]
  simp only [Bool.not_not]
  unfold RiseG
  rw [List.pairwise_cons]
  constructor
  ·rintro ⟨⟨h1, h2⟩, h3, h4, h5⟩
   refine ⟨⟨h5, h3⟩, fun a ha => ?_, fun a ha => ?_⟩
   ·rcases List.mem_cons.1 ha with rfl | ha
    ·exact h1
    ·exact h4 a ha
   ·rcases List.mem_cons.1 ha with rfl | ha
    ·exact h2
    ·exact bl_trans h2 (h5 a ha)
  ·rintro ⟨⟨h1, h2⟩, h3, h4⟩
   exact ⟨⟨h3 b (by simp), h4 b (by simp)⟩, h2, fun a ha => h3 a (by simp [ha]), h1⟩
theorem nameL_ne {x : List UInt8} (h : nameL x = true) : x ≠ [] := by
 intro e; subst e; revert h; decide
theorem attrNames_nilG (l : List AttrD) : attrNames [] l = true ↔ RiseG l ∧ ∀ a ∈ l, nameL a.name = true := by
 rw [attrNames_iff]
 exact ⟨fun h => ⟨h.1, h.2.1⟩, fun h => ⟨h.1, h.2, fun a ha => bl_nil (nameL_ne (h.2 a ha))⟩⟩
theorem values_iff : ∀ (l : List AttrD), valuesE l = 0 ↔ ∀ a ∈ l, charsE a.value = 0
 | [] => by simp [valuesE]
 | a :: r => by
  unfold valuesE
  by_cases h : charsE a.value = 0
  ·rw [if_pos h, values_iff r]; simp [h]
  ·rw [if_neg h]; simp [h]
theorem parts_elem {x : ItemD} (hk : x.kind = 1) : partsE x = 0 ↔ x.text = [] ∧ nameL x.name = true ∧ RiseG x.attrs ∧ (∀ a ∈ x.attrs, nameL a.name = true) ∧ x.attrs.length ≤ 20 ∧ ∀ a ∈ x.attrs, charsE a.value = 0 := by
 unfold partsE
 rw [if_neg (by omega)]
 by_cases ht : x.text = []
 ·rw [if_neg (by simp [hk, ht])]
  unfold namesE
  by_cases hn : nameL x.name && attrNames [] x.attrs
  ·rw [if_pos hn]
   simp only [Bool.and_eq_true, attrNames_nilG] at hn
   by_cases h20 : 20 < x.attrs.length
   ·rw [if_pos h20, if_neg (by decide)]
    exact ⟨fun h => (by cases h), fun h => by have := h.2.2.2.2.1; omega⟩
   ·rw [if_neg h20, if_pos rfl, values_iff]
    exact ⟨fun h => ⟨ht, hn.1, hn.2.1, hn.2.2, by omega, h⟩, fun h => h.2.2.2.2.2⟩
  ·rw [if_neg hn, if_neg (by decide)]
   simp only [Bool.and_eq_true, attrNames_nilG] at hn
   exact ⟨fun h => (by cases h), fun h => absurd ⟨h.2.1, h.2.2.1, h.2.2.2.1⟩ hn⟩
 ·rw [if_pos (.inr ht)]
  exact ⟨fun h => (by cases h), fun h => absurd h.1 ht⟩
theorem parts_text {x : ItemD} (hk : x.kind = 2) : partsE x = 0 ↔ x.name = [] ∧ x.attrs = [] ∧ charsE x.text = 0 := by
 unfold partsE
 by_cases h : x.name = [] ∧ x.attrs = []
 ·rw [if_pos ⟨hk, h.1, h.2⟩]
  exact ⟨fun h' => ⟨h.1, h.2, h'⟩, fun h' => h'.2.2⟩
 ·rw [if_neg (fun h' => h h'.2), if_pos (.inl (by omega))]
  exact ⟨fun h' => (by cases h'), fun h' => absurd ⟨h'.1, h'.2.1⟩ h⟩
/-! ## One put in, one taken out -/
theorem find_split {l : List AttrD} (hr : RiseG l) {name : List UInt8} {k : Nat} (h : FindAt l name k) : (∀ a ∈ l.take k, Op.bytesLess a.name name = true) ∧ ∀ a ∈ l.drop k, Op.bytesLess a.name name = false := by
 obtain ⟨h1, h2, h3⟩ := h
 unfold RiseG at hr
 rw [List.pairwise_iff_getElem] at hr
 constructor
 ·intro a ha
  obtain ⟨j, hj, rfl⟩ := List.mem_iff_getElem.1 ha
  rw [List.length_take] at hj
  rw [List.getElem_take]
  have hk := h2 (k - 1) l[k - 1] (by omega) (List.getElem?_eq_getElem (by omega))
  rw [cmpN_neg] at hk
  by_cases e : j = k - 1
  ·subst e; exact hk
  ·exact bl_trans (hr j (k - 1) (by omega) (by omega) (by omega)) hk
 ·intro a ha
  obtain ⟨j, hj, rfl⟩ := List.mem_iff_getElem.1 ha
  rw [List.length_drop] at hj
  rw [List.getElem_drop]
  have hk := h3 l[k] (List.getElem?_eq_getElem (by omega))
  have hk' : Op.bytesLess (l[k]).name name = false := by
   cases hb : Op.bytesLess (l[k]).name name with
   | false => rfl
   | true => rw [← cmpN_neg] at hb; omega
  by_cases e : j = 0
  ·subst e; exact hk'
  ·have hlt := hr k (k + j) (by omega) (by omega) (by omega)
   cases hb : Op.bytesLess (l[k + j]).name name with
   | false => rfl
   | true => rw [bl_trans hlt hb] at hk'; cases hk'
theorem withA_app : ∀ (X R : List AttrD) (a : AttrD), (∀ b ∈ X, Op.bytesLess b.name a.name = true) → withA (X ++ R) a = X ++ withA R a
 | [], _, _, _ => rfl
 | b :: X, R, a, h => by
  have := h b (by simp)
  rw [List.cons_append, withA, leB_not, this]
  simp [withA_app X R a (fun c hc => h c (by simp [hc]))]
theorem filter_ne (l : List AttrD) (name : List UInt8) (h : ∀ a ∈ l, a.name ≠ name) : l.filter (fun c => decide (c.name ≠ name)) = l := by
 rw [List.filter_eq_self]
 intro a ha
 simpa using h a ha
theorem take_drop_get {l : List AttrD} {k : Nat} {a : AttrD} (h : l[k]? = some a) : l = l.take k ++ a :: l.drop (k + 1) := by
 rw [← drop_cons h, List.take_append_drop]
theorem with_found {l : List AttrD} (hr : RiseG l) {name value : List UInt8} {k : Nat} (h : FindAt l name k) (hf : foundB l name k = true) :
  withA l ⟨name, value⟩ = l.set k ⟨name, value⟩ ∧ lessA l name = l.eraseIdx k ∧ (l.eraseIdx k).length + 1 = l.length := by
 obtain ⟨s1, s2⟩ := find_split hr h
 have hk := found_lt hf
 obtain ⟨a, ha⟩ : ∃ a, l[k]? = some a := ⟨_, List.getElem?_eq_getElem hk⟩
 have hn : a.name = name := by
  unfold foundB at hf
  rw [ha] at hf
  simpa using hf
 have hl := take_drop_get ha
 have htl : (l.take k).length = k := by simp; omega
 have hY : ∀ b ∈ l.drop (k + 1), b.name ≠ name := fun b hb => by
  have hr' := hr
  unfold RiseG at hr'
  rw [hl, List.pairwise_append] at hr'
  have := (List.pairwise_cons.1 hr'.2.1).1 b hb
  rw [hn] at this
  exact fun e => bl_ne this e.symm
 have hX : ∀ b ∈ l.take k, b.name ≠ name := fun b hb => bl_ne (s1 b hb)
 refine ⟨?_, ?_, by rw [List.length_eraseIdx]; rw [if_pos hk]; omega⟩
 ·rw [List.set_eq_take_append_cons_drop, if_pos hk]
  conv => lhs; rw [hl]
  rw [withA_app _ _ _ s1, withA, leB_not]
  have : Op.bytesLess a.name name = false := by rw [hn]; exact bl_irrefl _
  simp only [this, Bool.not_false, if_true]
  rw [List.filter_cons_of_neg (by simp [hn]), filter_ne _ _ hY]
 ·rw [List.eraseIdx_eq_take_drop_succ]
  unfold lessA
  conv => lhs; rw [hl]
  rw [List.filter_append, filter_ne _ _ hX, List.filter_cons_of_neg (by simp [hn]), filter_ne _ _ hY]
theorem with_new {l : List AttrD} (hr : RiseG l) {name value : List UInt8} {k : Nat} (h : FindAt l name k) (hf : foundB l name k = false) :
  withA l ⟨name, value⟩ = l.take k ++ ⟨name, value⟩ :: l.drop k ∧ lessA l name = l := by
 obtain ⟨s1, s2⟩ := find_split hr h
 have hX : ∀ b ∈ l.take k, b.name ≠ name := fun b hb => bl_ne (s1 b hb)
 have hY : ∀ b ∈ l.drop k, b.name ≠ name := fun b hb e => by
  obtain ⟨j, hj, hj'⟩ := List.mem_iff_getElem.1 hb
  rw [List.length_drop] at hj
  rw [List.getElem_drop] at hj'
  by_cases h0 : j = 0
  ·subst h0
   unfold foundB at hf
   have hjk : l[k]? = some b := by rw [← hj']; exact List.getElem?_eq_getElem (by omega)
   rw [hjk] at hf
   simp [e] at hf
  ·have hr' := hr
   unfold RiseG at hr'
   rw [List.pairwise_iff_getElem] at hr'
   have hlt := hr' k (k + j) (by omega) (by omega) (by omega)
   rw [hj', e] at hlt
   have := s2 l[k] (List.mem_iff_getElem.2 ⟨0, by rw [List.length_drop]; omega, by rw [List.getElem_drop]; rfl⟩)
   rw [this] at hlt; cases hlt
 have hall : ∀ b ∈ l, b.name ≠ name := fun b hb => by
  rw [← List.take_append_drop k l] at hb
  rcases List.mem_append.1 hb with h | h
  ·exact hX b h
  ·exact hY b h
 refine ⟨?_, filter_ne _ _ hall⟩
 conv => lhs; rw [← List.take_append_drop k l]
 rw [withA_app _ _ _ s1]
 cases hd : l.drop k with
 | nil => rfl
 | cons b R =>
  rw [hd] at s2 hY
  rw [withA, leB_not, s2 b (by simp)]
  simp only [Bool.not_false, if_true]
  rw [filter_ne _ _ hY]
theorem with_rise {l : List AttrD} (hr : RiseG l) {name value : List UInt8} {k : Nat} (h : FindAt l name k) : RiseG (withA l ⟨name, value⟩) ∧ ∀ a ∈ withA l ⟨name, value⟩, a = ⟨name, value⟩ ∨ a ∈ l := by
 obtain ⟨s1, s2⟩ := find_split hr h
 have hr' := hr
 unfold RiseG at hr'
 cases hf : foundB l name k with
 | true =>
  rw [(with_found hr h hf).1]
  have hk := found_lt hf
  obtain ⟨a, ha⟩ : ∃ a, l[k]? = some a := ⟨_, List.getElem?_eq_getElem hk⟩
  have hn : a.name = name := by
   unfold foundB at hf
   rw [ha] at hf
   simpa using hf
  rw [List.set_eq_take_append_cons_drop, if_pos hk]
  have hl := take_drop_get ha
  rw [hl, List.pairwise_append, List.pairwise_cons] at hr'
  refine ⟨?_, fun b hb => ?_⟩
  ·unfold RiseG
   rw [List.pairwise_append, List.pairwise_cons]
   refine ⟨hr'.1, ⟨fun b hb => ?_, hr'.2.1.2⟩, fun b hb c hc => ?_⟩
   ·have := hr'.2.1.1 b hb
    rw [hn] at this; exact this
   ·rcases List.mem_cons.1 hc with rfl | hc
    ·exact s1 b hb
    ·exact hr'.2.2 b hb c (by simp [hc])
  ·rcases List.mem_append.1 hb with hb | hb
   ·exact .inr (List.mem_of_mem_take hb)
   ·rcases List.mem_cons.1 hb with hb | hb
    ·exact .inl hb
    ·exact .inr (List.mem_of_mem_drop hb)
 | false =>
  rw [(with_new hr h hf).1]
  rw [← List.take_append_drop k l, List.pairwise_append] at hr'
  refine ⟨?_, fun b hb => ?_⟩
  ·unfold RiseG
   rw [List.pairwise_append, List.pairwise_cons]
   refine ⟨hr'.1, ⟨fun b hb => ?_, hr'.2.1⟩, fun b hb c hc => ?_⟩
   ·have h1 := s2 b hb
    cases h2 : Op.bytesLess name b.name with
    | true => rfl
    | false =>
     exfalso
     have e := bl_tri h1 h2
     have h3 := (with_new (value := value) hr h hf).2
     unfold lessA at h3
     rw [List.filter_eq_self] at h3
     have := h3 b (List.mem_of_mem_drop hb)
     simp [e] at this
   ·rcases List.mem_cons.1 hc with rfl | hc
    ·exact s1 b hb
    ·exact hr'.2.2 b hb c hc
  ·rcases List.mem_append.1 hb with hb | hb
   ·exact .inr (List.mem_of_mem_take hb)
   ·rcases List.mem_cons.1 hb with hb | hb
    ·exact .inl hb
    ·exact .inr (List.mem_of_mem_drop hb)
theorem less_rise {l : List AttrD} (hr : RiseG l) (name : List UInt8) : RiseG (lessA l name) ∧ (∀ a ∈ lessA l name, a ∈ l) ∧ (lessA l name).length ≤ l.length :=
 ⟨List.Pairwise.filter _ hr, fun _ ha => (List.mem_filter.1 ha).1, List.length_filter_le _ _⟩
end
section
open Go.RowKit Go.Shelf
theorem kid_append {w : World} {t mb : Nat} {y : Lay} {g : Int → Option Ent} {root next : Int} {n : Nat} (h : TreeAt w t mb y g root next n) {p : Int} {e : Ent} (he : g p = some e) (hl : e.kids.length ≤ 1000000) (id : Int) :
  ∃ pa pn pc w2, (Builtin.append_ #[43, 43] 43 #[y.kid p, .slice (some ⟨w.heap.size, 0, none⟩) 1 1]).run Tryz.prog (w.alloc (.cells #[.int .i64 id] 3)) = .ok (.slice pa pn pc) w2 ∧
   w2.heap[y.nb p]? = some (.cells (nodeC p e (y.att p) (y.kid p)) 92 (0, 0)) ∧
   TreeAt (w2.setCell ⟨y.nb p, 7, none⟩ (.slice pa pn pc)) t mb (layK y p (.slice pa pn pc)) (fset g p (some { e with kids := e.kids ++ [id] })) root next n ∧
   Grows (Mine t mb y g) (Mine t mb (layK y p (.slice pa pn pc)) (fset g p (some { e with kids := e.kids ++ [id] }))) w (w2.setCell ⟨y.nb p, 7, none⟩ (.slice pa pn pc)) := by
 obtain ⟨pa, pn, pc, w2, hr, _, hrow, hg, hf⟩ := run_append_int (h.kid p e he) hl id
 obtain ⟨q0, q1, q2⟩ := h.set_kids he hrow hg hf
 exact ⟨pa, pn, pc, w2, hr, q0, q1, q2⟩
theorem kid_insert {w w1 : World} {t mb : Nat} {y : Lay} {g : Int → Option Ent} {root next : Int} {n : Nat} (h : TreeAt w t mb y g root next n) {p : Int} {e : Ent} (he : g p = some e) (hl : e.kids.length ≤ 1000000) (id : Int) (k : Nat) (hk : k ≤ e.kids.length)
  (hw1 : w1 = w.alloc (.cells #[.int .i64 id] 3)) :
  Calls Tryz.prog 61 #[y.kid p, .int .i64 k, .slice (some ⟨w.heap.size, 0, none⟩) 1 1] w1 fun er w2 => ∃ pa pn pc, er = .returned (.slice pa pn pc) ∧
   w2.heap[y.nb p]? = some (.cells (nodeC p e (y.att p) (y.kid p)) 92 (0, 0)) ∧
   TreeAt (w2.setCell ⟨y.nb p, 7, none⟩ (.slice pa pn pc)) t mb (layK y p (.slice pa pn pc)) (fset g p (some { e with kids := e.kids.take k ++ id :: e.kids.drop k })) root next n ∧
   Grows (Mine t mb y g) (Mine t mb (layK y p (.slice pa pn pc)) (fset g p (some { e with kids := e.kids.take k ++ id :: e.kids.drop k }))) w (w2.setCell ⟨y.nb p, 7, none⟩ (.slice pa pn pc)) := by
 have hb : Below w.heap.size w w1 := by rw [hw1]; exact (Below.refl _ w).alloc (Nat.le_refl _) _
 have hX : w1.heap[w.heap.size]? = some (.cells #[.int .i64 id] 3 (0, 0)) := by rw [hw1]; exact heap_alloc_new w _
 have h1 := h.below hb
 refine (Insert_int (y.kid p) e.kids k id w.heap.size w1 (h1.kid p e he) hX (fun hh => by have := row_lt (h.kid p e he) hh; omega) hl hk).mono ?_
 rintro er w2 ⟨v', rfl, hr, hg, hf⟩
 obtain ⟨q0, q1, q2⟩ := h1.set_kids he hr hg hf
 obtain ⟨pa, pc, rfl⟩ : ∃ pa pc, v' = .slice pa (e.kids.take k ++ id :: e.kids.drop k).length pc := by
  obtain ⟨A, c, hv, _⟩ := row_shape hr
  exact ⟨A, c, hv⟩
 exact ⟨pa, _, pc, rfl, q0, q1, (Grows.of_below hb).trans q2⟩
end
section
open Go.RowKit Go.Shelf
attribute [local go_sem] Oper.semAt_some
def StandI (M : Nat → Prop) (w : World) (B : Nat) (A : Option Addr) (l : List ItemD) : Prop := ∀ wr, Turn M w wr → ItemsAt wr B A l
theorem StandI.now {M : Nat → Prop} {w : World} {B : Nat} {A : Option Addr} {l : List ItemD} (h : StandI M w B A l) : ItemsAt w B A l := h w (Turn.refl M w)
theorem StandI.of {M : Nat → Prop} {w : World} {B : Nat} {A : Option Addr} {l : List ItemD} (h : ItemsAt w B A l) (hB : ∀ b, M b → B ≤ b) (hBw : B ≤ w.heap.size) : StandI M w B A l := fun _ ht =>
 h.keep fun p hp => World.cell?_of_block (w := w) (ht.block p.block (by omega) (fun hm => by have := hB _ hm; omega))
theorem StandI.grow {M M' : Nat → Prop} {w w' : World} {B : Nat} {A : Option Addr} {l : List ItemD} (h : StandI M w B A l) (hg : Grows M M' w w') : StandI M' w' B A l := fun wr ht =>
 h wr ⟨ht.os.trans hg.1.os, ht.tape.trans hg.1.tape, ht.output.trans hg.1.output, Nat.le_trans hg.1.size ht.size, fun k hk hm => (ht.block k (Nat.lt_of_lt_of_le hk hg.1.size) (fun hm' => by
  rcases hg.2 k hm' with h' | h'
  ·exact hm h'
  ·omega)).trans (hg.1.block k hk hm)⟩
def GrowPost (ids : List Int) (t mb : Nat) (y : Lay) (g : Int → Option Ent) (w : World) (s2 : GS) (next : Int) (er : Ending) (w' : World) : Prop := ∃ i0, ids[0]? = some i0 ∧ er = .returned (.int .i64 i0) ∧ TP t mb y g w s2.g s2.root next s2.n w'
theorem kids_before {w : World} {t mb : Nat} {y y' : Lay} {g' : Int → Option Ent} {root next : Int} {n : Nat} {p : Int} {e' : Ent} {v : Value}
  (ht : TreeAt (w.setCell ⟨y.nb p, 7, none⟩ v) t mb y' g' root next n) (hg : g' p = some e') (hnb : y'.nb p = y.nb p) (hw : wfI p) :
  w.cell? ⟨t, 0, none⟩ = some (.map (some mb)) ∧ (Instr.lookup 73 (.map (some mb)) (.int .i64 p) false).run Tryz.prog w = .ok (.pointer (some ⟨y.nb p, 0, none⟩)) w := by
 have h1 := (ht.t_not.2 p e' hg).1
 have h2 := (ht.mb_not p e' hg).1
 rw [hnb] at h1 h2
 refine ⟨?_, ?_⟩
 ·have := ht.tree
  rw [Below.heap_setCell _ _ _ _ h1] at this
  exact cell_row this 0 _ rfl
 ·have hm := ht.map.keep (w' := w) (Below.heap_setCell _ _ _ _ h2).symm
  have := hm.look hw
  rw [hg] at this
  simpa [ptrOf, hnb] using this
section
variable {w : World} {t mb : Nat} {y : Lay} {g : Int → Option Ent} {root next : Int} {n : Nat}
theorem grow_any (h : TreeAt w t mb y g root next n) (parent : Int) (pl : Nat) (l : List ItemD) (ids : List Int) (A : Option Addr) (c B : Nat) (hi : StandI (Mine t mb y g) w B A l) (hBw : B ≤ w.heap.size) (vids : Value) (hids : intRow w vids ids) (hv : ∀ b, vids.ownBlock = some b → ¬ Mine t mb y g b)
  (hal : ∀ (k : Nat) (x : ItemD), l[k]? = some x → x.attrs.length ≤ 1000000000) (hwi : ∀ i ∈ ids, wfI i) (hwp : wfI parent) (hn : n ≤ 1000000) (hkl : ∀ id e, g id = some e → e.kids.length ≤ 100000) (hl : l.length ≤ 100000) (hll : ids.length = l.length) (hl0 : 0 < l.length) (hpl : pl ≤ 100000) (s2 : GS) (hs : growS (l.zip ids) ⟨[parent], pl, g, root, n⟩ = some s2) :
  Calls Tryz.prog 46 #[.pointer (some ⟨t, 0, none⟩), .int .i64 parent, .int .i64 pl, .slice A l.length c, vids] w (GrowPost ids t mb y g w s2 next) := by
 obtain ⟨W1, hW1⟩ : ∃ W1, Hid (W1 = w.alloc (.cells #[.int .i64 parent] 3)) := ⟨_, rfl⟩
 have hb1 : Below w.heap.size w W1 := by rw [hW1.out]; exact (Below.refl _ w).alloc (Nat.le_refl _) _
 have hX1 : W1.heap[w.heap.size]? = some (.cells #[.int .i64 parent] 3 (0, 0)) := by rw [hW1.out]; exact heap_alloc_new w _
 have HH := Lib.hid h
 have HI := Lib.hid hi
 have HIDS := Lib.hid hids
 have HS := Lib.hid hs
 have HV := Lib.hid hv
 have HX1 := Lib.hid hX1
 have HAL := Lib.hid hal
 have hGB0 : GB n pl 0 ⟨[parent], pl, g, root, n⟩ := ⟨fun z hz => by rw [List.mem_singleton.1 hz]; exact hwp, by simp, by simp, fun id e he => by have := hkl id e he; omega⟩
 have hzw : ∀ z ∈ l.zip ids, wfI z.2 := fun z hz => hwi z.2 (List.of_mem_zip hz).2
 have HGB : Hid (∀ (j : Nat) (s : GS), j ≤ (l.zip ids).length → growS ((l.zip ids).take j) ⟨[parent], pl, g, root, n⟩ = some s → GB n pl j s) := fun j s hj h => by
  have := growS_GB _ _ s n pl 0 hGB0 (fun z hz => hzw z (List.mem_of_mem_take hz)) h
  rw [List.length_take, Nat.min_eq_left hj, Nat.zero_add] at this
  exact this
 have HWI := Lib.hid hwi
 have HB1 := Lib.hid hb1
 obtain ⟨m, hm⟩ : ∃ m, Hid (l.length = m) := ⟨_, rfl⟩
 rw [hm.out] at hl hll hl0
 rw [hm.out]
 obtain ⟨VA, vc, hvids, _⟩ := row_shape hids
 rw [hll] at hvids
 have HVI := Lib.hid hvids
 rw [hvids]
 clear h hi hids hs hv hX1 hb1 hvids hal hwi hGB0 hzw hkl
 go_enter Tryz.func46, Tryz.ntmps46
 go_wp2_with fail
 rw [← hW1.out]
 go_loopw [2, 11, 20] (fun at' op k wr => ∃ (j : Nat) (s0 : GS) (b cc : Nat) (y0 : Lay), k = .int .i64 (j : Int) ∧ j ≤ m ∧ at' = .int .i64 (s0.pl : Int) ∧ op = .slice (some ⟨b, 0, none⟩) s0.op.length cc ∧ s0.op.length ≤ j + 1 ∧ Hid (growS ((l.zip ids).take j) ⟨[parent], pl, g, root, n⟩ = some s0) ∧
  Hid (intRow wr (.slice (some ⟨b, 0, none⟩) s0.op.length cc) s0.op) ∧ Hid (w.heap.size ≤ b) ∧ Hid (¬ Mine t mb y0 s0.g b) ∧ Hid (TreeAt wr t mb y0 s0.g s0.root next s0.n) ∧ Hid (Grows (Mine t mb y g) (Mine t mb y0 s0.g) w wr)) (fun _ _ k _ => m - (intOf k).toNat)
 case atStart =>
  refine ⟨0, ⟨[parent], pl, g, root, n⟩, w.heap.size, 1, y, rfl, Nat.zero_le _, rfl, rfl, Nat.le_refl _, rfl, ?_, Nat.le_refl _, fun hm' => ?_, HH.out.below HB1.out, Grows.of_below HB1.out⟩
  ·exact row_mk (xs := [Value.int .i64 parent]) HX1.out (Nat.le_refl _) (by decide) rfl rfl
  ·have := HH.out.lt hm'; omega
 case round =>
  obtain ⟨j, s0, b, cc, y0, rfl, hj, rfl, rfl, hopl, hgs, hrow, hbw, hbm, ht, hgr⟩ := hrel
  have hz := hgr.out.1.size
  have hIr := HI.out wr hgr.out.1
  have hidr : intRow wr vids ids := row_block HIDS.out fun q hq => hgr.out.1.block q (row_lt HIDS.out hq) (HV.out q hq)
  have j0 : (0 : Int) ≤ (j : Int) := by omega
  by_cases hjm : j < m
  ·have hjm' : (j : Int) < (m : Int) := by omega
   obtain ⟨x, hx⟩ : ∃ x, l[j]? = some x := ⟨_, List.getElem?_eq_getElem (by rw [hm.out]; exact hjm)⟩
   obtain ⟨i, hi⟩ : ∃ i, ids[j]? = some i := ⟨_, List.getElem?_eq_getElem (by rw [hll]; exact hjm)⟩
   have hzip : (l.zip ids)[j]? = some (x, i) := by rw [List.getElem?_zip_eq_some]; exact ⟨hx, hi⟩
   obtain ⟨s0', s1, e1, e2, e3⟩ := growS_take hzip HS.out
   have e0 : s0' = s0 := by rw [hgs.out] at e1; injection e1 with e1; exact e1.symm
   subst e0
   obtain ⟨ad, hA, hadB, hcells⟩ := hIr (by rw [hm.out]; omega)
   subst hA
   obtain ⟨A', c', hat, hac, k0, k1, k2, k3, k4⟩ := hcells j x hx
   have hgb := HGB.out j s0' (by rw [List.length_zip, hm.out]; omega) hgs.out
   have HGJ := Lib.hid hgb
   have hwj : wfI i := HWI.out i (List.mem_of_getElem? hi)
   have HWJ := Lib.hid hwj
   have HALX := Lib.hid (HAL.out j x hx)
   have HE2 := Lib.hid e2
   have HE3 := Lib.hid e3
   have HAT := Lib.hid hat
   rw [HVI.out] at hidr
   have hid2 : wr.ownsRow 0 3 1 (.slice VA m vc) m (ids.map (Value.int .i64)) := by
    have := hidr
    unfold intRow at this
    rw [hll] at this
    exact this
   obtain ⟨_, vc', hvv, _, _, hV0, hV1⟩ := row_shape hid2
   injection hvv with hvv _ hvc
   subst hvc
   cases VA with
   | none => rw [← hvv] at hV0; have := (hV0 rfl).1; omega
   | some va =>
    obtain ⟨vb, rfl, _⟩ := hV1 va hvv.symm
    have cid := own_cell hid2 j (.int .i64 i) (by rw [List.getElem?_map, hi]; rfl)
    clear hgb hwj hid2 hidr hV0 hV1 hvv hcells hIr e1 e2 e3 hgs hat hz
    obtain ⟨lv, p, hlv, hp, hno⟩ : ∃ (lv : Nat) (p : Int), x.level = (lv : Int) ∧ s0'.op[lv]? = some p ∧ s0'.g i = none := by
     have h2 := HE2.out
     unfold growStep at h2
     split at h2
     ·cases h2
     ·rename_i hneg
      split at h2
      ·cases h2
      ·rename_i p hp
       split at h2
       ·cases h2
       ·rename_i hno
        exact ⟨x.level.toNat, p, by omega, hp, by simpa using hno⟩
    have hlvl := (List.getElem?_eq_some_iff.1 hp).1
    rw [hlv] at k0
    unfold strV at k2 k3
    obtain ⟨Wb, hWb⟩ : ∃ Wb, Hid (Wb = wr.alloc (.cells #[.int .i64 (lv : Int), .int .i64 x.kind, .string ⟨x.name.toArray⟩, .string ⟨x.text.toArray⟩, .slice A' x.attrs.length c'] 62)) := ⟨_, rfl⟩
    have hbb : Below wr.heap.size wr Wb := by rw [hWb.out]; exact (Below.refl _ wr).alloc (Nat.le_refl _) _
    have hxb : Wb.heap[wr.heap.size]? = some (.cells #[.int .i64 (lv : Int), .int .i64 x.kind, .string ⟨x.name.toArray⟩, .string ⟨x.text.toArray⟩, .slice A' x.attrs.length c'] 62 (0, 0)) := by rw [hWb.out]; exact heap_alloc_new wr _
    have cidb : Wb.cell? ⟨vb, j, none⟩ = some (.int .i64 i) := (hbb.cell (by exact World.block_lt_of_cell? _ _ cid)).trans cid
    have d0 : Wb.cell? ⟨wr.heap.size, 0, none⟩ = some (.int .i64 (lv : Int)) := cell_row hxb 0 _ rfl
    rw [hWb.out] at cidb d0
    have HBB2 := Lib.hid hbb
    have HXB := Lib.hid hxb
    have lv0 : (0 : Int) ≤ (lv : Int) := by omega
    have lv1 : (lv : Int) ≤ 100000 := by omega
    obtain ⟨_, cc2, hcv, hcc, _, _, _⟩ := row_shape hrow.out
    injection hcv with hc1 hc2 hc3
    subst hc3
    clear hc1 hc2
    have hcc' : ((s0'.op.length : Nat) : Int) ≤ (cc : Int) := by omega
    have hlv2 : (lv : Int) + 1 ≤ (cc : Int) := by omega
    have hrowb : intRow Wb (.slice (some ⟨b, 0, none⟩) s0'.op.length cc) s0'.op := row_block hrow.out fun q hq => hbb.block q (row_lt hrow.out hq)
    obtain ⟨q, pc, w2, hr2, hq2, hrow2, hb2⟩ := run_append_cut hrowb (lv + 1) (by omega) (by omega) i
    have HROW2 := Lib.hid hrow2
    have HB2 := Lib.hid hb2
    have HQ2 := Lib.hid hq2
    have hx2 : w2.heap[wr.heap.size]? = some (.cells #[.int .i64 (lv : Int), .int .i64 x.kind, .string ⟨x.name.toArray⟩, .string ⟨x.text.toArray⟩, .slice A' x.attrs.length c'] 62 (0, 0)) := (hb2.block _ (Array.getElem?_eq_some_iff.1 hxb).1).trans hxb
    have f0 : w2.cell? ⟨wr.heap.size, 0, none⟩ = some (.int .i64 (lv : Int)) := cell_row hx2 0 _ rfl
    have hltk : (s0'.op.take (lv + 1) ++ [i]).length = lv + 2 := by simp; omega
    have hrow3 : w2.ownsRow 0 3 1 (.slice (some ⟨q, 0, none⟩) (lv + 1 + 1) pc) (lv + 1 + 1) ((s0'.op.take (lv + 1) ++ [i]).map (Value.int .i64)) := by
     have := hrow2
     unfold intRow at this
     rw [hltk] at this
     exact this
    have cp := own_cell hrow3 lv (.int .i64 p) (by rw [List.getElem?_map, List.getElem?_append_left (by simp; omega), List.getElem?_take, if_pos (by omega), hp]; rfl)
    have HX2 := Lib.hid hx2
    clear hx2 hltk hrow3
    rw [hWb.out] at hr2
    have hzb : Wb.heap.size = wr.heap.size + 1 := by rw [hWb.out]; simp
    have HLV := Lib.hid hlv
    clear hbb hxb hlv hrowb hrow2 hb2 hq2 hcc
    go_wp2_with (at_builtin; refine wpList_append_runI _ rfl _ _ 43 rfl (.slice (some ⟨b, 0, none⟩) (lv + 1) (lv + 1)) (.slice (some ⟨(wr.alloc (.cells #[.int .i64 (lv : Int), .int .i64 x.kind, .string ⟨x.name.toArray⟩, .string ⟨x.text.toArray⟩, .slice A' x.attrs.length c'] 62)).heap.size, 0, none⟩) 1 1) (by simp [Act.eval]) (by simp [Act.eval]) hr2 ?_)
    have ht2 : TreeAt w2 t mb y0 s0'.g s0'.root next s0'.n := ht.out.below (HBB2.out.trans (HB2.out.mono (by omega)))
    have HT2 := Lib.hid ht2
    have HTD : Hid (TreeAt w2.drew t mb y0 s0'.g s0'.root next s0'.n) := HT2.out.keep fun _ _ => rfl
    have hkS : ∀ V : World, V.cell? ⟨t, 0, none⟩ = some (.map (some mb)) → V.heap[wr.heap.size]? = some (.cells #[.int .i64 (lv : Int), .int .i64 x.kind, .string ⟨x.name.toArray⟩, .string ⟨x.text.toArray⟩, .slice A' x.attrs.length c'] 62 (0, 0)) →
      V.cell? ⟨t, 0, none⟩ = some (.map (some mb)) ∧ V.cell? ⟨wr.heap.size, 1, none⟩ = some (.int .i64 x.kind) ∧ V.cell? ⟨wr.heap.size, 2, none⟩ = some (.string ⟨x.name.toArray⟩) ∧ V.cell? ⟨wr.heap.size, 3, none⟩ = some (.string ⟨x.text.toArray⟩) ∧ V.cell? ⟨wr.heap.size, 4, none⟩ = some (.slice A' x.attrs.length c') := fun V h hx =>
     ⟨h, cell_row hx 1 _ rfl, cell_row hx 2 _ rfl, cell_row hx 3 _ rfl, cell_row hx 4 _ rfl⟩
    have HKS := Lib.hid hkS
    clear hkS ht2
    refine wp_region_held_drew (S := fun V => V.cell? ⟨t, 0, none⟩ = some (.map (some mb)) ∧ V.cell? ⟨wr.heap.size, 1, none⟩ = some (.int .i64 x.kind) ∧ V.cell? ⟨wr.heap.size, 2, none⟩ = some (.string ⟨x.name.toArray⟩) ∧ V.cell? ⟨wr.heap.size, 3, none⟩ = some (.string ⟨x.text.toArray⟩) ∧ V.cell? ⟨wr.heap.size, 4, none⟩ = some (.slice A' x.attrs.length c')) (by kernel_rfl) (HKS.out _ HTD.out.c0 HX2.out) (fun hHeld => ?_)
    refine tkv 0 (h := tkv 1 (h := tkv 2 (h := tkv 3 (h := tkv 4 (h := tkv 5 (h := ?_))))))
    refine tkv 6 (h := tkv 7 (h := tkv 8 (h := tkv 9 (h := tkv 10 (h := tkv 11 (h := ?_))))))
    refine tkv 12 (h := tkv 13 (h := tkv 14 (h := ?_)))
    refine rdy 15 (fun K hK => ?_)
    go_simp
    have hzr := hgr.out.1.size
    have hat2 : AttrsAt w2.drew w2.drew.heap.size A' x.attrs := (HAT.out.keep (w' := w2.drew) (fun q hq => World.cell?_of_block (w := wr) ((HB2.out.block _ (by omega)).trans (HBB2.out.block _ (by omega))))).more (by have h1 := HBB2.out.size; have h2 := HB2.out.size; show B ≤ w2.heap.size; omega)
    refine (Clone_any x.attrs A' c' w2.drew hat2 HALX.out).mono ?_
    clear hat2 hzr
    rintro e w5 ⟨A5, c5, rfl, hown5, hb5⟩
    obtain ⟨w7, hr7, ht7, hg7⟩ := made_node HTD.out HWJ.out hno (by have := HGJ.out.2.1; unfold maxLen; omega) p x hown5 hb5
    have ht5 : TreeAt w5 t mb y0 s0'.g s0'.root next s0'.n := HTD.out.below hb5
    have hx5 : w5.heap[wr.heap.size]? = some (.cells #[.int .i64 (lv : Int), .int .i64 x.kind, .string ⟨x.name.toArray⟩, .string ⟨x.text.toArray⟩, .slice A' x.attrs.length c'] 62 (0, 0)) := (hb5.block _ (by show _ < w2.heap.size; have := (Array.getElem?_eq_some_iff.1 HX2.out).1; omega)).trans HX2.out
    have HT5 := Lib.hid ht5
    have HX5 := Lib.hid hx5
    have HT7 := Lib.hid ht7
    have HG7 := Lib.hid hg7
    have HOWN5 := Lib.hid hown5
    have HB5 := Lib.hid hb5
    have HR7 := Lib.hid hr7
    clear ht5 hx5 ht7 hg7 hown5 hb5 hr7
    go_wp2_with fail
    refine hK.out _ _ (HKS.out _ HT5.out.c0 HX5.out) (fun hHeld => ?_)
    clear hK K
    try go_frame
    refine tkv 16 (h := tkv 17 (h := ?_))
    refine rdy 18 (fun K hK => ?_)
    go_simp
    have HXA : Hid ((w5.alloc (.cells (nodeC i (Ent.new p x) (.slice A5 x.attrs.length c5) (.slice none 0 0)) 92)).heap[wr.heap.size]? = some (.cells #[.int .i64 (lv : Int), .int .i64 x.kind, .string ⟨x.name.toArray⟩, .string ⟨x.text.toArray⟩, .slice A' x.attrs.length c'] 62 (0, 0))) := (Below.heap_alloc w5 _ _ (Array.getElem?_eq_some_iff.1 HX5.out).1).trans HX5.out
    have HTA : Hid (TreeAt (w5.alloc (.cells (nodeC i (Ent.new p x) (.slice A5 x.attrs.length c5) (.slice none 0 0)) 92)) t mb y0 s0'.g s0'.root next s0'.n) := HT5.out.below ((Below.refl _ w5).alloc (Nat.le_refl _) _)
    have hr7 := HR7.out
    unfold nodeC Ent.new ItemD.node strV at hr7
    simp only at hr7
    refine hK.out _ _ (HKS.out _ HTA.out.c0 HXA.out) (fun hHeld => ?_)
    clear hK K
    try go_frame
    refine rdy 19 (fun K hK => ?_)
    go_simp
    have hx7 : w7.heap[wr.heap.size]? = some (.cells #[.int .i64 (lv : Int), .int .i64 x.kind, .string ⟨x.name.toArray⟩, .string ⟨x.text.toArray⟩, .slice A' x.attrs.length c'] 62 (0, 0)) := (HG7.out.1.block _ (by have := (Array.getElem?_eq_some_iff.1 HX2.out).1; exact this) (fun hm' => by have := ht.out.lt hm'; omega)).trans HX2.out
    have HX7 := Lib.hid hx7
    clear hx7 hr7
    refine hK.out _ _ (HKS.out _ HT7.out.c0 HX7.out) (fun hHeld => ?_)
    clear hK K
    try go_frame
    refine wpAnyH_done (by kernel_rfl) ?_ _
    clear hHeld
    have d7 := cell_row HX7.out 0 _ rfl
    obtain ⟨y7, hy7⟩ : ∃ y7, Hid (layN y0 i w5.heap.size (.slice A5 x.attrs.length c5) = y7) := ⟨_, rfl⟩
    rw [hy7.out] at HT7 HG7
    have HROW7 : Hid (intRow w7 (.slice (some ⟨q, 0, none⟩) (lv + 1 + 1) pc) (s0'.op.take (lv + 1) ++ [i])) := row_block HROW2.out fun b2 hb2 => (HG7.out.1.block b2 (row_lt HROW2.out hb2) (fun hm' => by have h1 := ht.out.lt hm'; have h3 := HQ2.out; have h2 : q = b2 := (by simpa [Value.ownBlock] using hb2); omega))
    have HP := Lib.hid hp
    have hqn : ¬ Mine t mb y7 (fset s0'.g i (some (Ent.new p x))) q ∧ q < w7.heap.size ∧ w.heap.size ≤ q := by
     have h3 := HQ2.out
     have h4 := (row_lt HROW2.out (b := q) rfl : q < w2.heap.size)
     have h5 : w2.heap.size ≤ w7.heap.size := HG7.out.1.size
     have h6 := hgr.out.1.size
     refine ⟨fun hm' => ?_, by omega, by omega⟩
     rcases HG7.out.2 _ hm' with h | h
     ·have := ht.out.lt h; omega
     ·have : w2.heap.size ≤ q := h
      omega
    have hend : ∀ (W : World) (y1 : Lay), TreeAt W t mb y1 s1.g s1.root next s1.n → Grows (Mine t mb y7 (fset s0'.g i (some (Ent.new p x)))) (Mine t mb y1 s1.g) w7 W → s1.op = s0'.op.take (lv + 1) ++ [i] →
      Hid (intRow W (.slice (some ⟨q, 0, none⟩) s1.op.length pc) s1.op) ∧ Hid (w.heap.size ≤ q) ∧ Hid (¬ Mine t mb y1 s1.g q) ∧ Hid (TreeAt W t mb y1 s1.g s1.root next s1.n) ∧ Hid (Grows (Mine t mb y g) (Mine t mb y1 s1.g) w W) := by
     intro W y1 q1 q2 q3
     have hlen : (s0'.op.take (lv + 1) ++ [i]).length = lv + 1 + 1 := by simp; omega
     refine ⟨?_, hqn.2.2, fun hm' => ?_, q1, ?_⟩
     ·show intRow W _ s1.op
      rw [q3, hlen]
      exact row_block HROW7.out fun b2 hb2 => by
       have h2 : q = b2 := (by simpa [Value.ownBlock] using hb2)
       rw [← h2]
       exact q2.1.block q hqn.2.1 hqn.1
     ·rcases q2.2 _ hm' with h | h
      ·exact hqn.1 h
      ·omega
     ·refine Grows.trans hgr.out ((Grows.of_below (HBB2.out.trans ((HB2.out.mono (by omega)).drew))).trans (HG7.out.trans q2))
    have HEND := Lib.hid hend
    clear hend hqn
    clear hp hno f0 cp d0 cid cidb d7
    by_cases hp0 : p = 0
    ·subst hp0
     have hs1 := growStep_root HLV.out HP.out HE2.out
     have HS1 := Lib.hid hs1
     have f1 := HT7.out.c1
     have f2 := free_row HT7.out.tree 1
     have ht8 := HT7.out.set_root i
     have HT8 := Lib.hid ht8
     clear hs1 ht8
     go_wp2_with fail
     go_roundw
     case rel =>
      obtain ⟨z1, z2, z3, z4, z5⟩ := HEND.out _ y7 (by rw [HS1.out]; exact HT8.out) (by rw [HS1.out]; exact ⟨(Turn.refl _ _).setCell (.inl (.inl rfl)) _, fun b h => .inl h⟩) (by rw [HS1.out])
      exact ⟨j + 1, s1, q, pc, y7, by go_num, by omega, by rw [HS1.out], by rw [HS1.out]; simp; omega, by rw [HS1.out]; simp; omega, HE3, z1, z2, z3, z4, z5⟩
     case measure => simp [intOf]; omega
    ·have hb0 : (p == 0) = false := by simpa using hp0
     have hwfp : wfI p := HGJ.out.1 p (List.mem_of_getElem? HP.out)
     have HWP := Lib.hid hwfp
     have d7 := cell_row HX7.out 0 _ rfl
     obtain ⟨g7, hg7⟩ : ∃ g7, Hid (fset s0'.g i (some (Ent.new p x)) = g7) := ⟨_, rfl⟩
     rw [hg7.out] at HT7 HG7 HEND
     have hkS7 : ∀ (V : World) (e : Ent), g7 p = some e → TreeAt V t mb y7 g7 s0'.root next (s0'.n + 1) → V.cell? ⟨t, 0, none⟩ = some (.map (some mb)) ∧ (Instr.lookup 73 (.map (some mb)) (.int .i64 p) false).run Tryz.prog V = .ok (.pointer (some ⟨y7.nb p, 0, none⟩)) V := fun V e he h => ⟨h.c0, (h.look_yes he HWP.out).2⟩
     have HKS7 := Lib.hid hkS7
     have HTD7 : Hid (TreeAt w7.drew t mb y7 g7 s0'.root next (s0'.n + 1)) := HT7.out.keep fun _ _ => rfl
     clear hkS7 hwfp
     by_cases hl0 : lv = 0
     ·have hl1 : ((lv : Int) == 0) = true := by rw [hl0]; rfl
      obtain ⟨e, he, hpe, hs1⟩ := growStep_first HLV.out hl0 HP.out hp0 HE2.out
      have hgb1 := HGJ.out.step HWJ.out HE2.out
      rw [hg7.out] at he hs1
      have hkl1 : e.kids.length ≤ 1000000 := by
       have := hgb1.2.2.2 p { e with kids := e.kids.take s0'.pl ++ i :: e.kids.drop s0'.pl } (by rw [hs1]; exact fset_same _ _ _)
       simp at this; omega
      have HE := Lib.hid he
      have HS1 := Lib.hid hs1
      have HPE := Lib.hid hpe
      have HKL1 := Lib.hid hkl1
      have hpl0 : (0 : Int) ≤ (s0'.pl : Int) := by omega
      have hpl1 : (s0'.pl : Int) ≤ 300000 := by have := HGJ.out.2.2.1; omega
      have HL0 := Lib.hid hl0
      clear he hs1 hpe hkl1 hgb1 hl0
      go_wp2_with fail
      refine wp_region_held_drew (S := fun V => V.cell? ⟨t, 0, none⟩ = some (.map (some mb)) ∧ (Instr.lookup 73 (.map (some mb)) (.int .i64 p) false).run Tryz.prog V = .ok (.pointer (some ⟨y7.nb p, 0, none⟩)) V) (by kernel_rfl) (HKS7.out _ e HE.out HTD7.out) (fun hHeld => ?_)
      have HTB : Hid (TreeAt (w7.drew.alloc (.cells #[.int .i64 i] 3)) t mb y7 g7 s0'.root next (s0'.n + 1)) := HTD7.out.below ((Below.refl _ _).alloc (Nat.le_refl _) _)
      have n7 := HT7.out.n7 HE.out
      have n7b : (w7.alloc (.cells #[.int .i64 i] 3)).cell? ⟨y7.nb p, 7, none⟩ = some (y7.kid p) := (World.cell?_alloc_lt _ _ _ (Array.getElem?_eq_some_iff.1 (HT7.out.node p e HE.out)).1).trans n7
      refine tkv 0 (h := tkv 1 (h := tkv 2 (h := tkv 3 (h := tkv 4 (h := tkv 5 (h := ?_))))))
      refine tkv 6 (h := tkv 7 (h := tkv 8 (h := tkv 9 (h := tkv 10 (h := tkv 11 (h := ?_))))))
      refine tkv 12 (h := tkv 13 (h := ?_))
      refine tkv 15 (h := tkv 16 (h := ?_))
      refine wpAnyH_ready (rs := [14, 17]) (by kernel_rfl) (by simp) ?_
      refine AllReadyH.cons (o := ⟨_, _, _, _, _, _⟩) rfl (fun K hK => ?_) (AllReadyH.cons (o := ⟨_, _, _, _, _, _⟩) rfl (fun K hK => ?_) AllReadyH.nil)
      ·go_simp
       refine hK.out _ _ (HKS7.out _ e HE.out HTD7.out) (fun hHeld => ?_)
       clear hK K
       try go_frame
       refine rdy 17 (fun K hK => ?_)
       go_simp
       refine hK.out _ _ (HKS7.out _ e HE.out HTB.out) (fun hHeld => ?_)
       clear hK K
       try go_frame
       clear n7 n7b
       refine rdy 18 (fun K hK => ?_)
       go_simp
       refine (kid_insert HTD7.out HE.out HKL1.out i s0'.pl HPE.out rfl).mono ?_
       rintro er w9 ⟨pa, pn, pk, rfl, k1, k2, k3⟩
       have e7 := cell_row k1 7 _ rfl
       have f7 := free_row k1 7
       have HK2 := Lib.hid k2
       have HK3 := Lib.hid k3
       clear k1 k2 k3
       go_wp2_with fail
       refine hK.out _ _ (kids_before HK2.out (fset_same _ _ _) rfl HWP.out) (fun hHeld => ?_)
       clear hK K
       try go_frame
       refine tkv 19 (h := tkv 20 (h := ?_))
       refine rdy 21 (fun K hK => ?_)
       go_simp
       refine hK.out _ _ (⟨HK2.out.c0, (HK2.out.look_yes (fset_same _ _ _) HWP.out).2⟩) (fun hHeld => ?_)
       clear hK K
       try go_frame
       refine wpAnyH_done (by kernel_rfl) ?_ _
       clear hHeld e7 f7
       go_wp2_with fail
       go_roundw
       case rel =>
        obtain ⟨z1, z2, z3, z4, z5⟩ := HEND.out _ (layK y7 p (.slice pa pn pk)) (by rw [HS1.out]; exact HK2.out) (by rw [HS1.out]; exact Grows.trans (Grows.of_below (Below.refl _ _).drew) HK3.out) (by rw [HS1.out])
        exact ⟨j + 1, s1, q, pc, _, by go_num, by omega, by rw [HS1.out]; go_num, by rw [HS1.out]; simp; omega, by rw [HS1.out]; simp; omega, HE3, z1, z2, z3, z4, z5⟩
       case measure => simp [intOf]; omega
      ·go_simp
       refine hK.out _ _ (HKS7.out _ e HE.out HTB.out) (fun hHeld => ?_)
       clear hK K
       try go_frame
       refine rdy 14 (fun K hK => ?_)
       go_simp
       refine hK.out _ _ (HKS7.out _ e HE.out HTB.out) (fun hHeld => ?_)
       clear hK K
       try go_frame
       clear n7 n7b
       refine rdy 18 (fun K hK => ?_)
       go_simp
       refine (kid_insert HTD7.out HE.out HKL1.out i s0'.pl HPE.out rfl).mono ?_
       rintro er w9 ⟨pa, pn, pk, rfl, k1, k2, k3⟩
       have e7 := cell_row k1 7 _ rfl
       have f7 := free_row k1 7
       have HK2 := Lib.hid k2
       have HK3 := Lib.hid k3
       clear k1 k2 k3
       go_wp2_with fail
       refine hK.out _ _ (kids_before HK2.out (fset_same _ _ _) rfl HWP.out) (fun hHeld => ?_)
       clear hK K
       try go_frame
       refine tkv 19 (h := tkv 20 (h := ?_))
       refine rdy 21 (fun K hK => ?_)
       go_simp
       refine hK.out _ _ (⟨HK2.out.c0, (HK2.out.look_yes (fset_same _ _ _) HWP.out).2⟩) (fun hHeld => ?_)
       clear hK K
       try go_frame
       refine wpAnyH_done (by kernel_rfl) ?_ _
       clear hHeld e7 f7
       go_wp2_with fail
       go_roundw
       case rel =>
        obtain ⟨z1, z2, z3, z4, z5⟩ := HEND.out _ (layK y7 p (.slice pa pn pk)) (by rw [HS1.out]; exact HK2.out) (by rw [HS1.out]; exact Grows.trans (Grows.of_below (Below.refl _ _).drew) HK3.out) (by rw [HS1.out])
        exact ⟨j + 1, s1, q, pc, _, by go_num, by omega, by rw [HS1.out]; go_num, by rw [HS1.out]; simp; omega, by rw [HS1.out]; simp; omega, HE3, z1, z2, z3, z4, z5⟩
       case measure => simp [intOf]; omega
     ·have hl1 : ((lv : Int) == 0) = false := by simpa using hl0
      obtain ⟨e, he, hs1⟩ := growStep_more HLV.out hl0 HP.out hp0 HE2.out
      have hgb1 := HGJ.out.step HWJ.out HE2.out
      rw [hg7.out] at he hs1
      have hkl1 : e.kids.length ≤ 1000000 := by
       have := hgb1.2.2.2 p { e with kids := e.kids ++ [i] } (by rw [hs1]; exact fset_same _ _ _)
       simp at this; omega
      have HE := Lib.hid he
      have HS1 := Lib.hid hs1
      have HKL1 := Lib.hid hkl1
      have HL0 := Lib.hid hl0
      clear he hs1 hkl1 hgb1 hl0
      go_wp2_with fail
      refine wp_region_held_drew (S := fun V => V.cell? ⟨t, 0, none⟩ = some (.map (some mb)) ∧ (Instr.lookup 73 (.map (some mb)) (.int .i64 p) false).run Tryz.prog V = .ok (.pointer (some ⟨y7.nb p, 0, none⟩)) V) (by kernel_rfl) (HKS7.out _ e HE.out HTD7.out) (fun hHeld => ?_)
      have HTB : Hid (TreeAt (w7.drew.alloc (.cells #[.int .i64 i] 3)) t mb y7 g7 s0'.root next (s0'.n + 1)) := HTD7.out.below ((Below.refl _ _).alloc (Nat.le_refl _) _)
      have n7 := HT7.out.n7 HE.out
      have n7b : (w7.alloc (.cells #[.int .i64 i] 3)).cell? ⟨y7.nb p, 7, none⟩ = some (y7.kid p) := (World.cell?_alloc_lt _ _ _ (Array.getElem?_eq_some_iff.1 (HT7.out.node p e HE.out)).1).trans n7
      refine tkv 0 (h := tkv 1 (h := tkv 2 (h := tkv 3 (h := tkv 4 (h := tkv 5 (h := ?_))))))
      refine tkv 6 (h := tkv 7 (h := tkv 8 (h := tkv 9 (h := tkv 10 (h := tkv 11 (h := ?_))))))
      refine tkv 12 (h := tkv 13 (h := ?_))
      refine tkv 15 (h := ?_)
      refine wpAnyH_ready (rs := [14, 16]) (by kernel_rfl) (by simp) ?_
      refine AllReadyH.cons (o := ⟨_, _, _, _, _, _⟩) rfl (fun K hK => ?_) (AllReadyH.cons (o := ⟨_, _, _, _, _, _⟩) rfl (fun K hK => ?_) AllReadyH.nil)
      ·go_simp
       refine hK.out _ _ (HKS7.out _ e HE.out HTD7.out) (fun hHeld => ?_)
       clear hK K
       try go_frame
       refine rdy 16 (fun K hK => ?_)
       go_simp
       refine hK.out _ _ (HKS7.out _ e HE.out HTB.out) (fun hHeld => ?_)
       clear hK K
       try go_frame
       clear n7 n7b
       refine rdy 17 (fun K hK => ?_)
       obtain ⟨pa, pn, pk, w9, hra, k1, k2, k3⟩ := kid_append HTD7.out HE.out HKL1.out i
       refine step_append_runI rfl (.tmp 78) (.tmp 80) 43 43 rfl (y7.kid p) (.slice (some ⟨w7.heap.size, 0, none⟩) 1 1) (by simp [Act.eval]) (by simp [Act.eval]) hra ?_
       have e7 := cell_row k1 7 _ rfl
       have f7 := free_row k1 7
       have HK2 := Lib.hid k2
       have HK3 := Lib.hid k3
       clear k1 k2 k3
       refine hK.out _ _ (kids_before HK2.out (fset_same _ _ _) rfl HWP.out) (fun hHeld => ?_)
       clear hK K
       try go_frame
       refine tkv 18 (h := tkv 19 (h := ?_))
       refine rdy 20 (fun K hK => ?_)
       go_simp
       refine hK.out _ _ (⟨HK2.out.c0, (HK2.out.look_yes (fset_same _ _ _) HWP.out).2⟩) (fun hHeld => ?_)
       clear hK K
       try go_frame
       refine wpAnyH_done (by kernel_rfl) ?_ _
       clear hHeld e7 f7
       go_wp2_with fail
       go_roundw
       case rel =>
        obtain ⟨z1, z2, z3, z4, z5⟩ := HEND.out _ (layK y7 p (.slice pa pn pk)) (by rw [HS1.out]; exact HK2.out) (by rw [HS1.out]; exact Grows.trans (Grows.of_below (Below.refl _ _).drew) HK3.out) (by rw [HS1.out])
        exact ⟨j + 1, s1, q, pc, _, by go_num, by omega, by rw [HS1.out], by rw [HS1.out]; simp; omega, by rw [HS1.out]; simp; omega, HE3, z1, z2, z3, z4, z5⟩
       case measure => simp [intOf]; omega
      ·go_simp
       refine hK.out _ _ (HKS7.out _ e HE.out HTB.out) (fun hHeld => ?_)
       clear hK K
       try go_frame
       refine rdy 14 (fun K hK => ?_)
       go_simp
       refine hK.out _ _ (HKS7.out _ e HE.out HTB.out) (fun hHeld => ?_)
       clear hK K
       try go_frame
       clear n7 n7b
       refine rdy 17 (fun K hK => ?_)
       obtain ⟨pa, pn, pk, w9, hra, k1, k2, k3⟩ := kid_append HTD7.out HE.out HKL1.out i
       refine step_append_runI rfl (.tmp 78) (.tmp 80) 43 43 rfl (y7.kid p) (.slice (some ⟨w7.heap.size, 0, none⟩) 1 1) (by simp [Act.eval]) (by simp [Act.eval]) hra ?_
       have e7 := cell_row k1 7 _ rfl
       have f7 := free_row k1 7
       have HK2 := Lib.hid k2
       have HK3 := Lib.hid k3
       clear k1 k2 k3
       refine hK.out _ _ (kids_before HK2.out (fset_same _ _ _) rfl HWP.out) (fun hHeld => ?_)
       clear hK K
       try go_frame
       refine tkv 18 (h := tkv 19 (h := ?_))
       refine rdy 20 (fun K hK => ?_)
       go_simp
       refine hK.out _ _ (⟨HK2.out.c0, (HK2.out.look_yes (fset_same _ _ _) HWP.out).2⟩) (fun hHeld => ?_)
       clear hK K
       try go_frame
       refine wpAnyH_done (by kernel_rfl) ?_ _
       clear hHeld e7 f7
       go_wp2_with fail
       go_roundw
       case rel =>
        obtain ⟨z1, z2, z3, z4, z5⟩ := HEND.out _ (layK y7 p (.slice pa pn pk)) (by rw [HS1.out]; exact HK2.out) (by rw [HS1.out]; exact Grows.trans (Grows.of_below (Below.refl _ _).drew) HK3.out) (by rw [HS1.out])
        exact ⟨j + 1, s1, q, pc, _, by go_num, by omega, by rw [HS1.out], by rw [HS1.out]; simp; omega, by rw [HS1.out]; simp; omega, HE3, z1, z2, z3, z4, z5⟩
       case measure => simp [intOf]; omega
  ·have hjm' : ¬ (j : Int) < (m : Int) := by omega
   obtain ⟨i0, hi0⟩ : ∃ i, ids[0]? = some i := ⟨_, List.getElem?_eq_getElem (by rw [hll]; exact hl0)⟩
   have hjl : j = m := by omega
   have hzt : (l.zip ids).take j = l.zip ids := List.take_of_length_le (by rw [List.length_zip, hm.out]; omega)
   have h2 := hgs.out
   rw [hzt, HS.out] at h2
   injection h2 with h2
   rw [HVI.out] at hidr
   have hid2 : wr.ownsRow 0 3 1 (.slice VA m vc) m (ids.map (Value.int .i64)) := by
    have := hidr
    unfold intRow at this
    rw [hll] at this
    exact this
   obtain ⟨_, vc', hvv, _, _, hV0, hV1⟩ := row_shape hid2
   injection hvv with hvv _ hvc
   subst hvc
   cases VA with
   | none => rw [← hvv] at hV0; have := (hV0 rfl).1; omega
   | some va =>
    obtain ⟨vb, rfl, _⟩ := hV1 va hvv.symm
    have cid := own_cell hid2 0 (.int .i64 i0) (by rw [List.getElem?_map, hi0]; rfl)
    have HI0 := Lib.hid hi0
    have HZ2 : Hid (s2 = s0) := h2
    clear hid2 hidr hV0 hV1 hvv hIr hz hi0 h2 hzt hjl
    go_wp2_with fail
    go_ret
    refine ⟨i0, HI0.out, rfl, mb, y0, ?_, ?_⟩
    ·rw [HZ2.out]; exact ht.out
    ·rw [HZ2.out]; exact hgr.out
end
end
section
open Go.RowKit
theorem parts_any (x : ItemD) (A : Option Addr) (c : Nat) (w : World) (hA : AttrsAt w w.heap.size A x.attrs) (hs : SmallItem x) (V : Int) (hV : Hid (partsE x = V)) :
  Calls Tryz.prog 76 #[.agg (itemVal x A c)] w (Ret w (.int .i64 V)) := by
 have HSM := Lib.hid hs
 obtain ⟨hs1, hs2, hs3, hs4, hs5⟩ := hs
 have HS4 := Lib.hid hs4
 have HA := Lib.hid hA
 clear hs4 hA hs5
 have hV' := hV.out
 unfold partsE at hV'
 clear hV
 by_cases h1 : x.kind = 2 ∧ x.name = [] ∧ x.attrs = []
 ·rw [if_pos h1] at hV'
  obtain ⟨k1, k2, k3⟩ := h1
  have HV := Lib.hid hV'
  have e1 : (x.kind == 2) = true := by rw [k1]; rfl
  have e2 : (x.name == []) = true := by rw [k2]; rfl
  have e3 : x.attrs.length = 0 := by rw [k3]; rfl
  unfold itemVal strV
  rw [k2, e3, k1]
  clear k1 k2 k3 e1 e2 e3 hV'
  go_enter Tryz.func76, Tryz.ntmps76
  go_wp2_with fail
  refine (chars_l _ _ hs2 _ HV).mono ?_; rintro e w2 ⟨rfl, hb2⟩
  go_wp2_with fail
  go_ret
  exact ⟨rfl, ((Below.refl _ w).alloc (Nat.le_refl _) _).trans (hb2.mono (by simp))⟩
 ·rw [if_neg h1] at hV'
  by_cases h2 : x.kind ≠ 1 ∨ x.text ≠ []
  ·rw [if_pos h2] at hV'
   have hv : Hid (V = 68) := hV'.symm
   clear hV'
   by_cases k2 : x.kind = 2
   ·have e1 : (x.kind == 2) = true := by simp [k2]
    have e4 : (x.kind != 1) = true := by simp [k2]
    by_cases k3 : x.name = []
    ·have e2 : (x.name == []) = true := by simp [k3]
     have e3 : ((x.attrs.length : Int) == 0) = false := by
      have : x.attrs ≠ [] := fun h => h1 ⟨k2, k3, h⟩
      have : x.attrs.length ≠ 0 := fun h => this (List.eq_nil_of_length_eq_zero h)
      simp; omega
     clear h1 h2 k2 k3
     unfold itemVal strV
     go_enter Tryz.func76, Tryz.ntmps76
     go_wp2_with fail
     go_ret
     exact ⟨by rw [hv.out]; rfl, (Below.refl _ w).alloc (Nat.le_refl _) _⟩
    ·have e2 : (x.name == []) = false := by simp [k3]
     clear h1 h2 k2 k3
     unfold itemVal strV
     go_enter Tryz.func76, Tryz.ntmps76
     go_wp2_with fail
     go_ret
     exact ⟨by rw [hv.out]; rfl, (Below.refl _ w).alloc (Nat.le_refl _) _⟩
   ·have e1 : (x.kind == 2) = false := by simp [k2]
    by_cases k3 : x.kind = 1
    ·have e4 : (x.kind != 1) = false := by simp [k3]
     have e5 : (x.text == []) = false := by
      have : x.text ≠ [] := h2.resolve_left (fun h => h k3)
      simp [this]
     clear h1 h2 k2 k3
     unfold itemVal strV
     go_enter Tryz.func76, Tryz.ntmps76
     go_wp2_with fail
     go_ret
     exact ⟨by rw [hv.out]; rfl, (Below.refl _ w).alloc (Nat.le_refl _) _⟩
    ·have e4 : (x.kind != 1) = true := by simp [k3]
     clear h1 h2 k2 k3
     unfold itemVal strV
     go_enter Tryz.func76, Tryz.ntmps76
     go_wp2_with fail
     go_ret
     exact ⟨by rw [hv.out]; rfl, (Below.refl _ w).alloc (Nat.le_refl _) _⟩
  ·rw [if_neg h2] at hV'
   have k1 : x.kind = 1 := Decidable.of_not_not fun h => h2 (.inl h)
   have k5 : x.text = [] := Decidable.of_not_not fun h => h2 (.inr h)
   have e1 : (x.kind == 2) = false := by simp [k1]
   have e4 : (x.kind != 1) = false := by simp [k1]
   have e5 : (x.text == []) = true := by simp [k5]
   clear h1 h2 k1 k5
   obtain ⟨E, hE⟩ : ∃ E, Hid (namesE x = E) := ⟨_, rfl⟩
   rw [hE.out] at hV'
   have HV := Lib.hid hV'
   clear hV'
   have HN : ∀ w1 : World, Below w.heap.size w w1 → Calls Tryz.prog 104 #[.agg (itemVal x A c)] w1 (Ret w1 (.int .i64 E)) :=
    fun w1 hb => names_any x A c w1 ((HA.out.below hb).more hb.size) HSM.out E hE
   have HNH := Lib.hid HN
   clear HN
   unfold itemVal strV at *
   go_enter Tryz.func76, Tryz.ntmps76
   go_wp2_with fail
   obtain ⟨w1, hw1⟩ : ∃ w1, Hid (w1 = w.alloc (.cells #[.int .i64 x.level, .int .i64 x.kind, .string ⟨x.name.toArray⟩, .string ⟨x.text.toArray⟩, .slice A x.attrs.length c] 62)) := ⟨_, rfl⟩
   have hbw1 : Below w.heap.size w w1 := by rw [hw1.out]; exact (Below.refl _ w).alloc (Nat.le_refl _) _
   have hz1 : w.heap.size < w1.heap.size := by rw [hw1.out]; simp
   have hcell1 : Hid (w1.cell? ⟨w.heap.size, 4, none⟩ = some (.slice A x.attrs.length c)) := by
    show _ = _
    rw [hw1.out, World.cell?_alloc_at _ _ _ _ (by simp)]; rfl
   rw [← hw1.out]
   refine (HNH.out w1 hbw1).mono ?_; rintro e w2 ⟨rfl, hb2⟩
   have hz2 := hb2.size
   have hc4 : w2.cell? ⟨w.heap.size, 4, none⟩ = some (.slice A x.attrs.length c) := by
    rw [hb2.cell (p := ⟨w.heap.size, 4, none⟩) hz1]; exact hcell1.out
   go_wp2_with fail
   go_loopw [3, 38] (fun ev i wr => ∃ (k : Nat) (f : Int), k ≤ x.attrs.length ∧ i = .int .i64 k ∧ ev = .int .i64 f ∧ Hid ((if f = 0 then valuesE (x.attrs.drop k) else f) = V) ∧ Below w2.heap.size w2 wr) (fun _ i _ => x.attrs.length - (intOf i).toNat)
   case atStart => exact ⟨0, E, Nat.zero_le _, rfl, rfl, HV, Below.refl _ _⟩
   case round =>
    obtain ⟨k, f, hk, rfl, rfl, hin, hbel⟩ := hrel
    have hzr := hbel.size
    have hbwr : Below w.heap.size w wr := (hbw1.trans (hb2.mono (by omega))).trans (hbel.mono (by omega))
    by_cases hlt : k < x.attrs.length
    ·obtain ⟨a, ha⟩ : ∃ a, Hid (x.attrs[k]? = some a) := ⟨x.attrs[k], List.getElem?_eq_getElem _⟩
     obtain ⟨ad, hAd, hbl, hcs⟩ := (HA.out.below hbwr) (by omega)
     obtain ⟨hc0, hc1⟩ := hcs k a ha.out
     unfold strV at hc0 hc1
     clear hcs
     have hin' := hin.out
     rw [drop_cons ha.out, valuesE] at hin'
     have hnm := (HS4.out k a ha.out).2
     subst hAd
     have hlt' : (k : Int) < x.attrs.length := by omega
     by_cases hf : f = 0
     ·rw [if_pos hf] at hin'
      subst hf
      obtain ⟨q, hq⟩ : ∃ q, Hid (charsE a.value = q) := ⟨_, rfl⟩
      rw [hq.out] at hin'
      have hv : Hid ((if q = 0 then valuesE (x.attrs.drop (k + 1)) else q) = V) := hin'
      clear hin'
      go_wp2_with fail
      refine (chars_l _ _ hnm _ hq).mono ?_; rintro e w3 ⟨rfl, hb3⟩
      have hz3 := hb3.size
      simp only [World.size_alloc] at hz3
      go_wp2_with fail
      go_roundw
      case rel => exact ⟨k + 1, q, by omega, by go_num, rfl, hv, (hbel.alloc (by omega) _).trans (hb3.mono (by simp; omega))⟩
      case measure => simp [intOf]; omega
     ·rw [if_neg hf] at hin'
      have hv : Hid ((if f = 0 then valuesE (x.attrs.drop (k + 1)) else f) = V) := by show _ = _; rw [if_neg hf]; exact hin'
      clear hin'
      have ef : (f == 0) = false := by simp [hf]
      clear hf
      go_wp2_with fail
      go_roundw
      case rel => exact ⟨k + 1, f, by omega, by go_num, rfl, hv, hbel.alloc (by omega) _⟩
      case measure => simp [intOf]; omega
    ·have hk' : k = x.attrs.length := by omega
     have hv : Hid (V = f) := by
      show _ = _
      rw [← hin.out, List.drop_eq_nil_of_le (by omega)]
      simp only [valuesE]
      split <;> simp_all
     subst hk'
     go_wp2_with fail
     go_ret
     exact ⟨by rw [hv.out]; rfl, hbwr⟩
end
section
open Go.RowKit
theorem ItemsAt.item {w : World} {B : Nat} {ad : Addr} {l : List ItemD} (h : ItemsAt w B (some ad) l) {k : Nat} {x : ItemD} (hx : l[k]? = some x) : ad.block < B ∧ ∃ A' c, AttrsAt w B A' x.attrs ∧ x.attrs.length ≤ c ∧
  w.cell? (ad.add (k * 5)) = some (.int .i64 x.level) ∧ w.cell? ⟨(ad.add (k * 5)).block, (ad.add (k * 5)).off + 1, none⟩ = some (.int .i64 x.kind) ∧ w.cell? ⟨(ad.add (k * 5)).block, (ad.add (k * 5)).off + 2, none⟩ = some (strV x.name) ∧
  w.cell? ⟨(ad.add (k * 5)).block, (ad.add (k * 5)).off + 3, none⟩ = some (strV x.text) ∧ w.cell? ⟨(ad.add (k * 5)).block, (ad.add (k * 5)).off + 4, none⟩ = some (.slice A' x.attrs.length c) := by
 obtain ⟨ad', e, hb, hc⟩ := h (by have := (List.getElem?_eq_some_iff.1 hx).1; omega)
 injection e with e; subst e
 exact ⟨hb, hc k x hx⟩
theorem place_first (l : List ItemD) (ad : Addr) (c : Nat) (x : ItemD) (w : World) (hA : ItemsAt w w.heap.size (some ad) l) (hx : l[0]? = some x) (_hlen : l.length ≤ 1000000000) (V : Int) (hV : Hid (placeE none 0 x = V)) :
  Calls Tryz.prog 75 #[.slice (some ad) l.length c, .int .i64 0] w (Ret w (.int .i64 V)) := by
 have hl : 0 < l.length := (List.getElem?_eq_some_iff.1 hx).1
 obtain ⟨hbl, A', c', hat, _, h0, h1, h2, h3, h4⟩ := hA.item hx
 unfold strV at h2 h3
 have ez : ad.add (0 * 5) = ad := by unfold Addr.add; simp
 rw [ez] at h0 h1 h2 h3 h4
 have HAT := Lib.hid hat
 have hV' := hV.out
 clear hA hx ez hat hV
 by_cases c1 : x.level ≠ 0 ∨ x.kind ≠ 1
 ·have hv : Hid (69 = V) := by
   show _ = _
   rw [← hV']
   unfold placeE
   exact (if_pos c1).symm
  clear hV'
  by_cases c2 : x.level = 0
  ·have d1 : (x.level != 0) = false := by simp [c2]
   have d2 : (x.kind != 1) = true := by simp; omega
   clear c1 c2
   go_enter Tryz.func75, Tryz.ntmps75
   go_wp2_with fail
   go_ret
   exact ⟨by rw [← hv.out]; rfl, (Below.refl _ w).alloc (Nat.le_refl _) _⟩
  ·have d1 : (x.level != 0) = true := by simp [c2]
   clear c1 c2
   go_enter Tryz.func75, Tryz.ntmps75
   go_wp2_with fail
   go_ret
   exact ⟨by rw [← hv.out]; rfl, (Below.refl _ w).alloc (Nat.le_refl _) _⟩
 ·have hl0 : x.level = 0 := by omega
  have hk1 : x.kind = 1 := by omega
  have hv : Hid (0 = V) := by
   show _ = _
   rw [← hV']
   unfold placeE
   exact (if_neg c1).symm
  have d1 : (x.level != 0) = false := by simp [hl0]
  have d2 : (x.kind != 1) = false := by simp [hk1]
  have l0 : x.level ≤ 0 := by omega
  clear hV' c1 hk1 hl0
  go_enter Tryz.func75, Tryz.ntmps75
  go_wp2_with fail
  refine wp_region_held_drew (S := fun _ => True) (by kernel_rfl) trivial (fun hHeld => ?_)
  refine tkv 0 (h := tkv 1 (h := tkv 2 (h := ?_)))
  refine tkn 3 (h := tkn 4 (h := tkn 5 (h := tkn 6 (h := tkn 7 (h := tkn 8 (h := ?_))))))
  refine tkn 9 (h := tkn 10 (h := tkn 11 (h := tkn 12 (h := tkn 13 (h := tkn 14 (h := ?_))))))
  refine tkn 15 (h := tkn 16 (h := tkn 17 (h := tkn 18 (h := tkn 19 (h := tkn 20 (h := ?_))))))
  refine tkn 21 (h := tkn 22 (h := tkn 23 (h := tkn 24 (h := tkn 25 (h := tkn 26 (h := ?_))))))
  refine tkn 27 (h := tkn 28 (h := tkn 29 (h := tkn 30 (h := tkn 31 (h := tkn 32 (h := ?_))))))
  refine tkn 33 (h := tkn 34 (h := tkn 35 (h := tkn 36 (h := tkn 37 (h := ?_)))))
  refine tkv 38 (h := tkv 39 (h := ?_))
  refine wpAnyH_done (by kernel_rfl) ?_ _
  go_wp2_with fail
  go_ret
  exact ⟨by rw [← hv.out]; rfl, ((Below.refl _ w).alloc (Nat.le_refl _) _).drew⟩
theorem place_later (l : List ItemD) (ad : Addr) (c k : Nat) (x p : ItemD) (w : World) (hA : ItemsAt w w.heap.size (some ad) l) (hk0 : 0 < k) (hx : l[k]? = some x) (hp : l[k - 1]? = some p) (hlen : l.length ≤ 1000000000) (hpl : -9000000000000000000 ≤ p.level ∧ p.level ≤ 9000000000000000000) (V : Int) (hV : Hid (placeE (some p) k x = V)) :
  Calls Tryz.prog 75 #[.slice (some ad) l.length c, .int .i64 k] w (Ret w (.int .i64 V)) := by
 have hl : k < l.length := (List.getElem?_eq_some_iff.1 hx).1
 obtain ⟨hbl, A', c', hat, _, h0, h1, h2, h3, h4⟩ := hA.item hx
 obtain ⟨_, A2, c2, _, _, g0, g1, _, _, _⟩ := hA.item hp
 unfold strV at h2 h3
 have HAT := Lib.hid hat
 have hV' := hV.out
 clear hA hx hp hV hat
 have i1 : (0 : Int) ≤ (k : Int) := by omega
 have i2 : (1 : Int) ≤ (k : Int) := by omega
 have i3 : (k : Int) < l.length := by omega
 have i4 : (0 : Int) ≤ (k : Int) - 1 := by omega
 have i5 : (k : Int) - 1 < l.length := by omega
 have t0 : ((k : Int) == 0) = false := by simp; omega
 have t1 : decide ((0 : Int) < (k : Int)) = true := by simp; omega
 have t2 : decide (0 < k) = true := by simp; omega
 obtain ⟨lo, hi⟩ := hpl
 obtain ⟨W1, hW1⟩ : ∃ W1, Hid (W1 = w.alloc (.cells #[.int .i64 x.level, .int .i64 x.kind, .string ⟨x.name.toArray⟩, .string ⟨x.text.toArray⟩, .slice A' x.attrs.length c'] 62)) := ⟨_, rfl⟩
 have hS : Hid (W1.drew.cell? ⟨w.heap.size, 0, none⟩ = some (.int .i64 x.level) ∧ W1.drew.cell? (ad.add ((k - 1) * 5)) = some (.int .i64 p.level) ∧ W1.drew.cell? ⟨(ad.add ((k - 1) * 5)).block, (ad.add ((k - 1) * 5)).off + 1, none⟩ = some (.int .i64 p.kind)) := by
  refine ⟨?_, ?_, ?_⟩
  ·rw [hW1.out]; show (w.alloc _).cell? _ = _; rw [World.cell?_alloc_at _ _ _ _ (by simp)]; rfl
  ·rw [hW1.out]; show (w.alloc _).cell? _ = _; rw [World.cell?_alloc_lt _ _ _ (by rw [block_of_add]; exact hbl)]; exact g0
  ·rw [hW1.out]; show (w.alloc _).cell? _ = _; rw [World.cell?_alloc_lt _ _ _ (by show (ad.add _).block < _; rw [block_of_add]; exact hbl)]; exact g1
 have hbW : Below w.heap.size w W1 := by rw [hW1.out]; exact (Below.refl _ w).alloc (Nat.le_refl _) _
 have hzW : w.heap.size < W1.heap.size := by rw [hW1.out]; simp
 have hcs : Hid (∀ w', Below W1.heap.size W1 w' → w'.cell? ⟨w.heap.size, 0, none⟩ = some (.int .i64 x.level) ∧ w'.cell? ⟨w.heap.size, 1, none⟩ = some (.int .i64 x.kind) ∧ w'.cell? ⟨w.heap.size, 2, none⟩ = some (.string ⟨x.name.toArray⟩) ∧ w'.cell? ⟨w.heap.size, 3, none⟩ = some (.string ⟨x.text.toArray⟩) ∧ w'.cell? ⟨w.heap.size, 4, none⟩ = some (.slice A' x.attrs.length c')) := fun w' hb => by
  refine ⟨?_, ?_, ?_, ?_, ?_⟩
  all_goals
   rw [hb.cell (by exact hzW), hW1.out, World.cell?_alloc_at _ _ _ _ (by simp)]; rfl
 by_cases c1 : x.level < 1
 ·skip
  have hv : Hid (69 = V) := by
   show _ = _
   rw [← hV']
   unfold placeE
   exact (if_pos (.inl c1)).symm
  have d1 : decide (x.level < 1) = true := by simp; omega
  clear hV'
  go_enter Tryz.func75, Tryz.ntmps75
  go_wp2_with fail
  rw [← hW1.out]
  refine wp_region_held_drew (S := fun w' => w'.cell? ⟨w.heap.size, 0, none⟩ = some (.int .i64 x.level) ∧ w'.cell? (ad.add ((k - 1) * 5)) = some (.int .i64 p.level) ∧ w'.cell? ⟨(ad.add ((k - 1) * 5)).block, (ad.add ((k - 1) * 5)).off + 1, none⟩ = some (.int .i64 p.kind)) (by kernel_rfl) hS.out (fun hHeld => ?_)
  refine tkv 0 (h := tkv 1 (h := tkv 2 (h := tkv 3 (h := tkv 4 (h := tkv 5 (h := ?_))))))
  refine tkv 6 (h := ?_)
  refine tkn 7 (h := tkn 8 (h := tkn 9 (h := tkn 10 (h := tkn 11 (h := tkn 12 (h := ?_))))))
  refine tkn 13 (h := tkn 14 (h := tkn 15 (h := tkn 16 (h := ?_))))
  refine tkv 17 (h := tkv 18 (h := ?_))
  refine tkn 19 (h := tkn 20 (h := tkn 21 (h := tkn 22 (h := tkn 23 (h := tkn 24 (h := ?_))))))
  refine tkn 25 (h := tkn 26 (h := tkn 27 (h := tkn 28 (h := tkn 29 (h := tkn 30 (h := ?_))))))
  refine tkn 31 (h := tkn 32 (h := tkn 33 (h := tkn 34 (h := tkn 35 (h := tkn 36 (h := ?_))))))
  refine tkv 37 (h := tkv 38 (h := tkv 39 (h := ?_)))
  refine wpAnyH_done (by kernel_rfl) ?_ _
  clear hW1
  go_wp2_with fail
  go_ret
  exact ⟨by rw [← hv.out]; rfl, hbW.trans ((Below.refl _ W1).drew.mono (Nat.le_of_lt hzW))⟩
 have n1 : 1 ≤ x.level := by omega
 by_cases c2 : p.level + 1 < x.level
 ·skip
  have hv : Hid (69 = V) := by
   show _ = _
   rw [← hV']
   unfold placeE
   exact (if_pos (.inr (.inl c2))).symm
  have d1 : decide (x.level < 1) = false := by simp; omega
  have w1 : IntKind.i64.wrap (p.level + 1) = p.level + 1 := IntWalk.i64_in _ (by omega)
  have d2 : decide (p.level + 1 < x.level) = true := by simp; omega
  have wk : IntKind.i64.wrap ((k : Int) - 1) = (k : Int) - 1 := IntWalk.i64_in _ (by omega)
  have kn : ((k : Int) - 1).toNat = k - 1 := by omega
  clear hV'
  go_enter Tryz.func75, Tryz.ntmps75
  go_wp2_with fail
  rw [← hW1.out]
  refine wp_region_held_drew (S := fun w' => w'.cell? ⟨w.heap.size, 0, none⟩ = some (.int .i64 x.level) ∧ w'.cell? (ad.add ((k - 1) * 5)) = some (.int .i64 p.level) ∧ w'.cell? ⟨(ad.add ((k - 1) * 5)).block, (ad.add ((k - 1) * 5)).off + 1, none⟩ = some (.int .i64 p.kind)) (by kernel_rfl) hS.out (fun hHeld => ?_)
  refine tkv 0 (h := tkv 1 (h := tkv 2 (h := tkv 3 (h := tkv 4 (h := tkv 5 (h := ?_))))))
  refine tkv 6 (h := tkv 7 (h := tkv 8 (h := tkv 9 (h := tkv 10 (h := tkv 11 (h := ?_))))))
  refine tkv 12 (h := tkv 13 (h := tkv 14 (h := tkv 15 (h := tkv 16 (h := tkv 17 (h := ?_))))))
  refine tkv 18 (h := ?_)
  refine tkn 19 (h := tkn 20 (h := tkn 21 (h := tkn 22 (h := tkn 23 (h := tkn 24 (h := ?_))))))
  refine tkn 25 (h := tkn 26 (h := tkn 27 (h := tkn 28 (h := tkn 29 (h := tkn 30 (h := ?_))))))
  refine tkn 31 (h := tkn 32 (h := tkn 33 (h := tkn 34 (h := tkn 35 (h := tkn 36 (h := ?_))))))
  refine tkv 37 (h := tkv 38 (h := tkv 39 (h := ?_)))
  refine wpAnyH_done (by kernel_rfl) ?_ _
  clear hW1
  go_wp2_with fail
  go_ret
  exact ⟨by rw [← hv.out]; rfl, hbW.trans ((Below.refl _ W1).drew.mono (Nat.le_of_lt hzW))⟩
 by_cases c3 : p.level < x.level
 ·by_cases c4 : p.kind = 2
  ·skip
   have hv : Hid (69 = V) := by
    show _ = _
    rw [← hV']
    unfold placeE
    exact (if_pos (.inr (.inr ⟨c3, c4⟩))).symm
   have d1 : decide (x.level < 1) = false := by simp; omega
   have w1 : IntKind.i64.wrap (p.level + 1) = p.level + 1 := IntWalk.i64_in _ (by omega)
   have d2 : decide (p.level + 1 < x.level) = false := by simp; omega
   have d3 : decide (p.level < x.level) = true := by simp; omega
   have d4 : (p.kind == 2) = true := by simp [c4]
   have wk : IntKind.i64.wrap ((k : Int) - 1) = (k : Int) - 1 := IntWalk.i64_in _ (by omega)
   have kn : ((k : Int) - 1).toNat = k - 1 := by omega
   clear hV'
   go_enter Tryz.func75, Tryz.ntmps75
   go_wp2_with fail
   rw [← hW1.out]
   refine wp_region_held_drew (S := fun w' => w'.cell? ⟨w.heap.size, 0, none⟩ = some (.int .i64 x.level) ∧ w'.cell? (ad.add ((k - 1) * 5)) = some (.int .i64 p.level) ∧ w'.cell? ⟨(ad.add ((k - 1) * 5)).block, (ad.add ((k - 1) * 5)).off + 1, none⟩ = some (.int .i64 p.kind)) (by kernel_rfl) hS.out (fun hHeld => ?_)
   refine tkv 0 (h := tkv 1 (h := tkv 2 (h := tkv 3 (h := tkv 4 (h := tkv 5 (h := ?_))))))
   refine tkv 6 (h := tkv 7 (h := tkv 8 (h := tkv 9 (h := tkv 10 (h := tkv 11 (h := ?_))))))
   refine tkv 12 (h := tkv 13 (h := tkv 14 (h := tkv 15 (h := tkv 16 (h := tkv 17 (h := ?_))))))
   refine tkv 18 (h := tkv 19 (h := tkv 20 (h := tkv 21 (h := tkv 22 (h := tkv 23 (h := ?_))))))
   refine tkv 24 (h := tkv 25 (h := tkv 26 (h := tkv 27 (h := tkv 28 (h := tkv 29 (h := ?_))))))
   refine tkv 30 (h := tkv 31 (h := tkv 32 (h := tkv 33 (h := tkv 34 (h := tkv 35 (h := ?_))))))
   refine tkv 36 (h := tkv 37 (h := tkv 38 (h := tkv 39 (h := ?_))))
   refine wpAnyH_done (by kernel_rfl) ?_ _
   clear hW1
   go_wp2_with fail
   go_ret
   exact ⟨by rw [← hv.out]; rfl, hbW.trans ((Below.refl _ W1).drew.mono (Nat.le_of_lt hzW))⟩
  ·skip
   have hpl : placeE (some p) k x = (if 40 ≤ x.level then (42 : Int) else if 1000 ≤ k then 43 else 0) := by unfold placeE; exact if_neg (by omega)
   have hv' : Hid ((if 40 ≤ x.level then (42 : Int) else if 1000 ≤ k then 43 else 0) = V) := by show _ = _; rw [← hV', hpl]
   clear hpl
   have d1 : decide (x.level < 1) = false := by simp; omega
   have w1 : IntKind.i64.wrap (p.level + 1) = p.level + 1 := IntWalk.i64_in _ (by omega)
   have d2 : decide (p.level + 1 < x.level) = false := by simp; omega
   have d3 : decide (p.level < x.level) = true := by simp; omega
   have d4 : (p.kind == 2) = false := by simp [c4]
   have wk : IntKind.i64.wrap ((k : Int) - 1) = (k : Int) - 1 := IntWalk.i64_in _ (by omega)
   have kn : ((k : Int) - 1).toNat = k - 1 := by omega
   clear hV'
   go_enter Tryz.func75, Tryz.ntmps75
   go_wp2_with fail
   rw [← hW1.out]
   refine wp_region_held_drew (S := fun w' => w'.cell? ⟨w.heap.size, 0, none⟩ = some (.int .i64 x.level) ∧ w'.cell? (ad.add ((k - 1) * 5)) = some (.int .i64 p.level) ∧ w'.cell? ⟨(ad.add ((k - 1) * 5)).block, (ad.add ((k - 1) * 5)).off + 1, none⟩ = some (.int .i64 p.kind)) (by kernel_rfl) hS.out (fun hHeld => ?_)
   refine tkv 0 (h := tkv 1 (h := tkv 2 (h := tkv 3 (h := tkv 4 (h := tkv 5 (h := ?_))))))
   refine tkv 6 (h := tkv 7 (h := tkv 8 (h := tkv 9 (h := tkv 10 (h := tkv 11 (h := ?_))))))
   refine tkv 12 (h := tkv 13 (h := tkv 14 (h := tkv 15 (h := tkv 16 (h := tkv 17 (h := ?_))))))
   refine tkv 18 (h := tkv 19 (h := tkv 20 (h := tkv 21 (h := tkv 22 (h := tkv 23 (h := ?_))))))
   refine tkv 24 (h := tkv 25 (h := tkv 26 (h := tkv 27 (h := tkv 28 (h := tkv 29 (h := ?_))))))
   refine tkv 30 (h := tkv 31 (h := tkv 32 (h := tkv 33 (h := tkv 34 (h := tkv 35 (h := ?_))))))
   refine tkv 36 (h := tkv 37 (h := tkv 38 (h := tkv 39 (h := ?_))))
   refine wpAnyH_done (by kernel_rfl) ?_ _
   clear hW1 wk kn w1 t0 t1 t2 d1 d2 d3
   have hbD : Below W1.heap.size W1 W1.drew := (Below.refl _ W1).drew
   obtain ⟨e0, e1, e2, e3, e4⟩ := hcs.out _ hbD
   have hbD' := hbW.trans (hbD.mono (Nat.le_of_lt hzW))
   by_cases l40 : 40 ≤ x.level
   ·have hv : Hid (42 = V) := by show _ = _; rw [← hv'.out, if_pos l40]
    clear hv'
    go_wp2_with fail
    go_ret
    exact ⟨by rw [← hv.out]; rfl, hbD'⟩
   by_cases k1000 : 1000 ≤ k
   ·have hv : Hid (43 = V) := by show _ = _; rw [← hv'.out, if_neg l40, if_pos k1000]
    clear hv'
    have k1' : (1000 : Int) ≤ k := by omega
    go_wp2_with fail
    go_ret
    exact ⟨by rw [← hv.out]; rfl, hbD'⟩
   have hv : Hid (0 = V) := by show _ = _; rw [← hv'.out, if_neg l40, if_neg k1000]
   clear hv'
   have k1' : (k : Int) < 1000 := by omega
   have l40' : x.level < 40 := by omega
   go_wp2_with fail
   go_ret
   exact ⟨by rw [← hv.out]; rfl, hbD'⟩
 ·skip
  have hpl : placeE (some p) k x = (if 40 ≤ x.level then (42 : Int) else if 1000 ≤ k then 43 else 0) := by unfold placeE; exact if_neg (by omega)
  have hv' : Hid ((if 40 ≤ x.level then (42 : Int) else if 1000 ≤ k then 43 else 0) = V) := by show _ = _; rw [← hV', hpl]
  clear hpl
  have d1 : decide (x.level < 1) = false := by simp; omega
  have w1 : IntKind.i64.wrap (p.level + 1) = p.level + 1 := IntWalk.i64_in _ (by omega)
  have d2 : decide (p.level + 1 < x.level) = false := by simp; omega
  have d3 : decide (p.level < x.level) = false := by simp; omega
  have wk : IntKind.i64.wrap ((k : Int) - 1) = (k : Int) - 1 := IntWalk.i64_in _ (by omega)
  have kn : ((k : Int) - 1).toNat = k - 1 := by omega
  clear hV'
  go_enter Tryz.func75, Tryz.ntmps75
  go_wp2_with fail
  rw [← hW1.out]
  refine wp_region_held_drew (S := fun w' => w'.cell? ⟨w.heap.size, 0, none⟩ = some (.int .i64 x.level) ∧ w'.cell? (ad.add ((k - 1) * 5)) = some (.int .i64 p.level) ∧ w'.cell? ⟨(ad.add ((k - 1) * 5)).block, (ad.add ((k - 1) * 5)).off + 1, none⟩ = some (.int .i64 p.kind)) (by kernel_rfl) hS.out (fun hHeld => ?_)
  refine tkv 0 (h := tkv 1 (h := tkv 2 (h := tkv 3 (h := tkv 4 (h := tkv 5 (h := ?_))))))
  refine tkv 6 (h := tkv 7 (h := tkv 8 (h := tkv 9 (h := tkv 10 (h := tkv 11 (h := ?_))))))
  refine tkv 12 (h := tkv 13 (h := tkv 14 (h := tkv 15 (h := tkv 16 (h := tkv 17 (h := ?_))))))
  refine tkv 18 (h := tkv 19 (h := tkv 20 (h := tkv 21 (h := tkv 22 (h := tkv 23 (h := ?_))))))
  refine tkv 24 (h := tkv 25 (h := tkv 26 (h := tkv 27 (h := tkv 28 (h := ?_)))))
  refine tkn 29 (h := tkn 30 (h := tkn 31 (h := tkn 32 (h := tkn 33 (h := tkn 34 (h := ?_))))))
  refine tkn 35 (h := ?_)
  refine tkv 36 (h := tkv 37 (h := tkv 38 (h := tkv 39 (h := ?_))))
  refine wpAnyH_done (by kernel_rfl) ?_ _
  clear hW1 wk kn w1 t0 t1 t2 d1 d2 d3
  have hbD : Below W1.heap.size W1 W1.drew := (Below.refl _ W1).drew
  obtain ⟨e0, e1, e2, e3, e4⟩ := hcs.out _ hbD
  have hbD' := hbW.trans (hbD.mono (Nat.le_of_lt hzW))
  by_cases l40 : 40 ≤ x.level
  ·have hv : Hid (42 = V) := by show _ = _; rw [← hv'.out, if_pos l40]
   clear hv'
   go_wp2_with fail
   go_ret
   exact ⟨by rw [← hv.out]; rfl, hbD'⟩
  by_cases k1000 : 1000 ≤ k
  ·have hv : Hid (43 = V) := by show _ = _; rw [← hv'.out, if_neg l40, if_pos k1000]
   clear hv'
   have k1' : (1000 : Int) ≤ k := by omega
   go_wp2_with fail
   go_ret
   exact ⟨by rw [← hv.out]; rfl, hbD'⟩
  have hv : Hid (0 = V) := by show _ = _; rw [← hv'.out, if_neg l40, if_neg k1000]
  clear hv'
  have k1' : (k : Int) < 1000 := by omega
  have l40' : x.level < 40 := by omega
  go_wp2_with fail
  go_ret
  exact ⟨by rw [← hv.out]; rfl, hbD'⟩
end
section
open Go.RowKit
theorem place_any (l : List ItemD) (A : Option Addr) (c k : Nat) (x : ItemD) (w : World) (hA : ItemsAt w w.heap.size A l) (hx : l[k]? = some x) (hlen : l.length ≤ 1000000000) (hpl : ∀ p, prevOf l k = some p → 0 ≤ p.level ∧ p.level < 40) (V : Int) (hV : Hid (placeE (prevOf l k) k x = V)) :
  Calls Tryz.prog 75 #[.slice A l.length c, .int .i64 k] w (Ret w (.int .i64 V)) := by
 have hl : k < l.length := (List.getElem?_eq_some_iff.1 hx).1
 obtain ⟨ad, rfl, _⟩ := hA (by omega)
 by_cases hk : k = 0
 ·subst hk
  exact place_first l ad c x w hA hx hlen V hV
 ·have hp : l[k - 1]? = some l[k - 1] := List.getElem?_eq_getElem _
  have he : prevOf l k = some l[k - 1] := by unfold prevOf; rw [if_neg hk, hp]
  have hb := hpl _ he
  rw [he] at hV
  exact place_later l ad c k x _ w hA (by omega) hx hp hlen (by omega) V hV
theorem Check_any (l : List ItemD) (A : Option Addr) (c : Nat) (w : World) (hA : ItemsAt w w.heap.size A l) (hs : SmallItems l) (n e : Int) (hV : Hid (checkL l = (n, e))) :
  Calls Tryz.prog 45 #[.slice A l.length c] w (Ret w (.tuple #[.int .i64 n, .int .i64 e])) := by
 obtain ⟨hs1, hs2⟩ := hs
 have HS := Lib.hid hs2
 have HA := Lib.hid hA
 clear hs2 hA
 by_cases h0 : l = []
 ·have hv : Hid (n = 0 ∧ e = 40) := by
   have := hV.out
   unfold checkL at this
   rw [if_pos h0] at this
   injection this with a b
   exact ⟨a.symm, b.symm⟩
  have hlen : l.length = 0 := by rw [h0]; rfl
  rw [hlen]
  clear h0 hV hs1 hlen
  go_enter Tryz.func45, Tryz.ntmps45
  go_wp2_with fail
  go_ret2
  obtain ⟨rfl, rfl⟩ := hv.out
  exact ⟨rfl, Below.refl _ _⟩
 ·have hpos : 0 < l.length := List.length_pos_iff.2 h0
  have hC : Hid (checkF (prevOf l 0) 0 (l.drop 0) = (n, e)) := by
   have := hV.out
   unfold checkL at this
   rw [if_neg h0] at this
   exact this
  have t0 : ((l.length : Int) == 0) = false := by simp; omega
  clear h0 hV
  go_enter Tryz.func45, Tryz.ntmps45
  go_wp2_with fail
  go_loopw [12] (fun i wr => ∃ (k : Nat), k ≤ l.length ∧ i = .int .i64 k ∧ Hid (checkF (prevOf l k) k (l.drop k) = (n, e)) ∧ Hid (∀ p, prevOf l k = some p → 0 ≤ p.level ∧ p.level < 40) ∧ Below w.heap.size w wr) (fun i _ => l.length - (intOf i).toNat)
  case atStart => exact ⟨0, Nat.zero_le _, rfl, hC, fun p hp => by simp [prevOf] at hp, Below.refl _ _⟩
  case round =>
   obtain ⟨k, hk, rfl, hin, hpv, hbel⟩ := hrel
   have hzr := hbel.size
   by_cases hlt : k < l.length
   ·obtain ⟨x, hx⟩ : ∃ x, Hid (l[k]? = some x) := ⟨l[k], List.getElem?_eq_getElem _⟩
    have hAr := HA.out.below hbel
    obtain ⟨ad, hAd, _⟩ := hAr (by omega)
    subst hAd
    obtain ⟨hbl, A', c', hat, _, h0, h1, h2, h3, h4⟩ := hAr.item hx.out
    unfold strV at h2 h3
    have HAR := Lib.hid hAr
    have HAT := Lib.hid hat
    clear hAr hat
    have hsx := Lib.hid (HS.out k x hx.out)
    have hin' := hin.out
    rw [checkF_drop hx.out] at hin'
    have hlt' : (k : Int) < l.length := by omega
    obtain ⟨q, hq⟩ : ∃ q, Hid (placeE (prevOf l k) k x = q) := ⟨_, rfl⟩
    obtain ⟨W1, hW1⟩ : ∃ W1, Hid (W1 = wr.alloc (.cells #[.int .i64 x.level, .int .i64 x.kind, .string ⟨x.name.toArray⟩, .string ⟨x.text.toArray⟩, .slice A' x.attrs.length c'] 62)) := ⟨_, rfl⟩
    have hbW : Below wr.heap.size wr W1 := by rw [hW1.out]; exact (Below.refl _ wr).alloc (Nat.le_refl _) _
    have hzW : wr.heap.size < W1.heap.size := by rw [hW1.out]; simp
    have hcs : Hid (∀ w', Below W1.heap.size W1 w' → w'.cell? ⟨wr.heap.size, 0, none⟩ = some (.int .i64 x.level) ∧ w'.cell? ⟨wr.heap.size, 1, none⟩ = some (.int .i64 x.kind) ∧ w'.cell? ⟨wr.heap.size, 2, none⟩ = some (.string ⟨x.name.toArray⟩) ∧ w'.cell? ⟨wr.heap.size, 3, none⟩ = some (.string ⟨x.text.toArray⟩) ∧ w'.cell? ⟨wr.heap.size, 4, none⟩ = some (.slice A' x.attrs.length c')) := fun w' hb => by
     refine ⟨?_, ?_, ?_, ?_, ?_⟩
     all_goals
      rw [hb.cell (by exact hzW), hW1.out, World.cell?_alloc_at _ _ _ _ (by simp)]; rfl
    clear hbl
    go_wp2_with fail
    rw [← hW1.out]
    refine (place_any l (some ad) c k x W1 ((HAR.out.below (hbW.mono hzr)).more (by omega)) hx.out hs1 hpv.out q hq).mono ?_; rintro e2 w2 ⟨rfl, hb2⟩
    obtain ⟨c0, c1, c2, c3, c4⟩ := hcs.out _ hb2
    have hb2' : Below w.heap.size w w2 := hbel.trans ((hbW.mono hzr).trans (hb2.mono (by omega)))
    clear h0 h1 h2 h3 h4
    by_cases hq0 : q = 0
    ·obtain ⟨f, hf⟩ : ∃ f, Hid (partsE x = f) := ⟨_, rfl⟩
     have ho : oneE (prevOf l k) k x = f := by unfold oneE; rw [hq.out, if_pos hq0]; exact hf.out
     rw [ho] at hin'
     subst hq0
     by_cases hf0 : f = 0
     ·rw [if_pos hf0] at hin'
      have HIN := Lib.hid hin'
      have hpv' : Hid (∀ p, prevOf l (k + 1) = some p → 0 ≤ p.level ∧ p.level < 40) := fun p hp => by
       rw [prevOf_succ hx.out] at hp
       injection hp with hp; subst hp
       exact placeE_zero hq.out
      subst hf0
      clear hin' hin ho hpv
      go_wp2_with fail
      refine (parts_any x A' c' w2 ((HAT.out.below (hbW.mono hzr |>.trans (hb2.mono (by omega)))).more hb2'.size) hsx.out 0 hf).mono ?_; rintro e3 w3 ⟨rfl, hb3⟩
      have hb3' : Below w.heap.size w w3 := hb2'.trans (hb3.mono hb2'.size)
      go_wp2_with fail
      go_roundw
      case rel => exact ⟨k + 1, by omega, by go_num, HIN, hpv', hb3'⟩
      case measure => simp [intOf]; omega
     ·rw [if_neg hf0] at hin'
      have HIN := Lib.hid hin'
      have tf : (f != 0) = true := by simp [hf0]
      clear hin' hin ho hpv hf0
      go_wp2_with fail
      refine (parts_any x A' c' w2 ((HAT.out.below (hbW.mono hzr |>.trans (hb2.mono (by omega)))).more hb2'.size) hsx.out f hf).mono ?_; rintro e3 w3 ⟨rfl, hb3⟩
      have hb3' : Below w.heap.size w w3 := hb2'.trans (hb3.mono hb2'.size)
      go_wp2_with fail
      go_ret2
      have := HIN.out
      injection this with a b
      subst a; subst b
      exact ⟨rfl, hb3'⟩
    ·have ho : oneE (prevOf l k) k x = q := by unfold oneE; rw [hq.out, if_neg hq0]
     rw [ho, if_neg hq0] at hin'
     have HIN := Lib.hid hin'
     have tq : (q == 0) = false := by simp [hq0]
     have tq' : (q != 0) = true := by simp [hq0]
     clear hin' hin ho hpv hq0
     go_wp2_with fail
     go_ret2
     have := HIN.out
     injection this with a b
     subst a; subst b
     exact ⟨rfl, hb2'⟩
   ·have hk' : k = l.length := by omega
    have HIN : Hid ((0, 0) = (n, e)) := by
     show _ = _
     rw [← hin.out, List.drop_eq_nil_of_le (by omega)]; rfl
    subst hk'
    clear hin hlt hk hpv
    go_wp2_with fail
    go_ret2
    have := HIN.out
    injection this with a b
    subst a; subst b
    exact ⟨rfl, hbel⟩
end
section
open Go.RowKit Go.Shelf
section
variable {w : World} {t mb : Nat} {y : Lay} {g : Int → Option Ent} {root next : Int} {n : Nat}
theorem load_new {w1 : World} (h : TreeAt w t mb y g root next n) (hb : Below w.heap.size w w1) :
  TreeAt (((w1.alloc (.map #[] 0)).setCell ⟨t, 0, none⟩ (.map (some w1.heap.size))).setCell ⟨t, 1, none⟩ (.int .i64 0)) t w1.heap.size y (fun _ => none) 0 next 0 ∧
  Grows (Mine t mb y g) (Mine t w1.heap.size y (fun _ => none)) w (((w1.alloc (.map #[] 0)).setCell ⟨t, 0, none⟩ (.map (some w1.heap.size))).setCell ⟨t, 1, none⟩ (.int .i64 0)) := by
 have h1 := h.below hb
 have ht : t < w.heap.size := h.lt (.inl rfl)
 have ht1 : t < w1.heap.size := Nat.lt_of_lt_of_le ht hb.size
 have a0 : (w1.alloc (.map #[] 0)).heap[t]? = some (.cells (treeC mb root next) 75 (0, 0)) := (Below.heap_alloc w1 _ _ ht1).trans h1.tree
 have a1 := Lib.heap_setCell_same (i := 0) a0 (.map (some w1.heap.size))
 have a2 := Lib.heap_setCell_same (i := 1) a1 (.int .i64 0)
 refine ⟨⟨a2, ?_, fun _ _ h => (by cases h), fun _ _ h => (by cases h), fun _ _ h => (by cases h), fun _ _ _ _ h => (by cases h)⟩, ?_, ?_⟩
 ·refine (MapG.new w1).keep ?_
  rw [Below.heap_setCell _ _ _ _ (by show w1.heap.size ≠ t; omega), Below.heap_setCell _ _ _ _ (by show w1.heap.size ≠ t; omega)]
 ·exact (((Turn.of_below hb).alloc _).setCell (.inl (.inl rfl)) _).setCell (.inl (.inl rfl)) _
 ·rintro b (hb' | hb' | ⟨_, _, h, _⟩)
  ·exact .inl (.inl hb')
  ·exact .inr (by rw [hb']; exact hb.size)
  ·cases h
def LoadPost (t mb : Nat) (y : Lay) (g : Int → Option Ent) (w : World) (s2 : GS) (next : Int) (m : Nat) (er : Ending) (w' : World) : Prop := er = .returned (.tuple #[.int .i64 next, .int .i64 0]) ∧ TP t mb y g w s2.g s2.root (next + (m : Int)) s2.n w'
theorem Load_no (l : List ItemD) (A : Option Addr) (c : Nat) (hi : ItemsAt w w.heap.size A l) (hs : SmallItems l) (k e : Int) (hV : Hid (checkL l = (k, e))) (he : e ≠ 0) :
  Calls Tryz.prog 18 #[.pointer (some ⟨t, 0, none⟩), .slice A l.length c] w (Ret w (.tuple #[.int .i64 0, .int .i64 e])) := by
 have he' : (e != 0) = true := by simpa using he
 have HI := Lib.hid hi
 have HS := Lib.hid hs
 clear hi hs he
 go_enter Tryz.func18, Tryz.ntmps18
 go_wp2_with fail
 refine (Check_any l A c w HI.out HS.out k e hV).mono ?_
 rintro er w1 ⟨rfl, hb⟩
 have HB := Lib.hid hb
 clear hb
 go_wp2_with fail
 go_ret2
 exact ⟨rfl, HB.out⟩
theorem Load_many (h : TreeAt w t mb y g root next n) (l : List ItemD) (A : Option Addr) (c : Nat) (hi : ItemsAt w w.heap.size A l) (hs : SmallItems l) (k : Int) (hV : Hid (checkL l = (k, 0))) (hn0 : 0 ≤ next) (hn1 : next ≤ 4294967296) (hm : 2147483647 < next + (l.length : Int)) :
  Calls Tryz.prog 18 #[.pointer (some ⟨t, 0, none⟩), .slice A l.length c] w (Ret w (.tuple #[.int .i64 0, .int .i64 66])) := by
 have HI := Lib.hid hi
 have HS := Lib.hid hs
 have HH := Lib.hid h
 have hm' : 2147483647 - next < (l.length : Int) := by omega
 clear hi hs h
 go_enter Tryz.func18, Tryz.ntmps18
 go_wp2_with fail
 refine (Check_any l A c w HI.out HS.out k 0 hV).mono ?_
 rintro er w1 ⟨rfl, hb⟩
 have c2 := (HH.out.below hb).c2
 have HB := Lib.hid hb
 clear hb
 go_wp2_with fail
 go_ret2
 exact ⟨rfl, HB.out⟩
theorem Load_yes (h : TreeAt w t mb y g root next n) (l : List ItemD) (A : Option Addr) (c B : Nat) (hi : StandI (Mine t mb y g) w B A l) (hBw : B ≤ w.heap.size) (hs : SmallItems l) (k : Int) (hV : Hid (checkL l = (k, 0))) (hn0 : 1 ≤ next) (hn1 : next ≤ 2147483647) (hm : next + (l.length : Int) ≤ 2147483647)
  (s2 : GS) (hg : growS (l.zip (idsFrom next l.length)) ⟨[0], 0, fun _ => none, 0, 0⟩ = some s2) :
  Calls Tryz.prog 18 #[.pointer (some ⟨t, 0, none⟩), .slice A l.length c] w (LoadPost t mb y g w s2 next l.length) := by
 have hmm := @run_makeMap Tryz.prog
 obtain ⟨x0, r0, hl0, _, _, _, _, hck, hlen⟩ := (check_ok l).1 (by rw [hV.out])
 have hpos : 0 < l.length := by rw [hl0]; simp
 have hal : ∀ (k : Nat) (x : ItemD), l[k]? = some x → x.attrs.length ≤ 1000000000 := fun k x hx => by
  have := parts_small (hck x (List.mem_of_getElem? hx)).2; omega
 have HAL := Lib.hid hal
 have HI := Lib.hid hi
 have HS := Lib.hid hs
 have HH := Lib.hid h
 have HG := Lib.hid hg
 have HBW := Lib.hid hBw
 have hm' : ¬ (2147483647 - next < (l.length : Int)) := by omega
 clear hi hs h hl0 hck hal hg hBw
 go_enter Tryz.func18, Tryz.ntmps18
 go_wp2_with fail
 refine (Check_any l A c w (HI.out.now.more HBW.out) HS.out k 0 hV).mono ?_
 rintro er w1 ⟨rfl, hb⟩
 have h1 := HH.out.below hb
 have c2 := h1.c2
 have a0 : (w1.alloc (.map #[] 0)).heap[t]? = some (.cells (treeC mb root next) 75 (0, 0)) := (Below.heap_alloc w1 _ _ (h1.lt (.inl rfl))).trans h1.tree
 have a1 := Lib.heap_setCell_same (i := 0) a0 (.map (some w1.heap.size))
 have f0 := free_row a0 0
 have f1 := free_row a1 1
 have c0 := cell_row a0 0 _ rfl
 have c1 := cell_row a1 1 _ rfl
 have HB := Lib.hid hb
 have hl := load_new HH.out hb
 have HL := Lib.hid hl
 clear hb h1 hl a0 a1
 go_upto_region 7 with (fail)
 obtain ⟨W2, hW2⟩ : ∃ W2, Hid (((w1.alloc (.map #[] 0)).setCell ⟨t, 0, none⟩ (.map (some w1.heap.size))).setCell ⟨t, 1, none⟩ (.int .i64 0) = W2) := ⟨_, rfl⟩
 rw [hW2.out] at HL ⊢
 clear c2 f0 f1 c0 c1
 go_wp2_with fail
 refine (given_any HL.out.1 l.length (by omega) (by omega) (by omega)).mono ?_
 rintro e1 w3 ⟨A3, c3, rfl, hrow, hfr, ht3, htu⟩
 have hm3 : ∀ b, Mine t w1.heap.size y (fun _ => none) b → b < W2.heap.size := fun b hb => HL.out.1.lt hb
 have hi3 : StandI (Mine t w1.heap.size y (fun _ => none)) w3 B A l := HI.out.grow (Grows.trans HL.out.2 ⟨htu.mono fun b hb => .inl hb, fun b hb => .inl hb⟩)
 have HI3 := Lib.hid hi3
 have HT3 := Lib.hid ht3
 have HROW := Lib.hid hrow
 have HFR := Lib.hid hfr
 have HTU := Lib.hid htu
 have HM3 := Lib.hid hm3
 clear hi3 ht3 hrow hfr htu hm3
 go_wp2_with fail
 refine (grow_any HT3.out 0 0 l (idsFrom next l.length) A c B HI3.out (by have := HTU.out.size; have := HL.out.2.1.size; have := HBW.out; omega) (.slice A3 l.length c3) HROW.out (fun b hb hm => by have := HFR.out b hb; have := HM3.out b hm; omega) HAL.out (fun i hi => ?_) ⟨by decide, by decide⟩ (by decide) (fun _ _ h => by cases h) (by omega) (idsFrom_length _ _) hpos (by decide) s2 HG.out).mono ?_
 ·obtain ⟨j, hj, rfl⟩ := List.mem_map.1 hi
  have := List.mem_range.1 hj
  exact ⟨by omega, by omega⟩
 rintro e2 w4 ⟨i0, hi0, rfl, mb', y', ht4, hg4⟩
 have hi0' : i0 = next := by
  unfold idsFrom at hi0
  rw [List.getElem?_map, List.getElem?_range hpos] at hi0
  simpa using hi0.symm
 subst hi0'
 have HT4 := Lib.hid ht4
 have HG4 := Lib.hid hg4
 clear hi0 ht4 hg4
 go_wp2_with fail
 go_ret2
 refine ⟨rfl, mb', y', HT4.out, Grows.trans HL.out.2 (Grows.trans ⟨HTU.out.mono fun b hb => .inl hb, fun b hb => .inl hb⟩ HG4.out)⟩
end
end
section
open Go.RowKit
theorem forest_any (l : List ItemD) (A : Option Addr) (c : Nat) (w : World) (hA : ItemsAt w w.heap.size A l) (hs : SmallItems l) (n e : Int) (hV : Hid (forestL l = (n, e))) :
  Calls Tryz.prog 58 #[.slice A l.length c] w (Ret w (.tuple #[.int .i64 n, .int .i64 e])) := by
 obtain ⟨hs1, hs2⟩ := hs
 have HS := Lib.hid hs2
 have HA := Lib.hid hA
 clear hs2 hA
 by_cases h0 : l = []
 ·have hv : Hid (n = 0 ∧ e = 40) := by
   have := hV.out
   unfold forestL at this
   rw [if_pos h0] at this
   injection this with a b
   exact ⟨a.symm, b.symm⟩
  have hlen : l.length = 0 := by rw [h0]; rfl
  rw [hlen]
  clear h0 hV hs1 hlen
  go_enter Tryz.func58, Tryz.ntmps58
  go_wp2_with fail
  go_ret2
  obtain ⟨rfl, rfl⟩ := hv.out
  exact ⟨rfl, Below.refl _ _⟩
 ·have hpos : 0 < l.length := List.length_pos_iff.2 h0
  have hC : Hid (forestF (prevOf l 0) 0 (l.drop 0) = (n, e)) := by
   have := hV.out
   unfold forestL at this
   rw [if_neg h0] at this
   exact this
  have t0 : ((l.length : Int) == 0) = false := by simp; omega
  clear h0 hV
  go_enter Tryz.func58, Tryz.ntmps58
  go_wp2_with fail
  go_loopw [4, 16] (fun d i wr => ∃ (k : Nat) (dp : Int), k ≤ l.length ∧ i = .int .i64 k ∧ d = .int .i64 dp ∧ (0 ≤ dp ∧ dp ≤ 1000000000) ∧ Hid (forestF (prevOf l k) dp (l.drop k) = (n, e)) ∧ Hid (∀ p, prevOf l k = some p → 0 ≤ p.level ∧ p.level ≤ (k : Int)) ∧ Below w.heap.size w wr) (fun _ i _ => l.length - (intOf i).toNat)
  case atStart => exact ⟨0, 0, Nat.zero_le _, rfl, rfl, by omega, hC, fun p hp => by simp [prevOf] at hp, Below.refl _ _⟩
  case round =>
   obtain ⟨k, dp, hk, rfl, rfl, hdp, hin, hpv, hbel⟩ := hrel
   obtain ⟨hdp0, hdp1⟩ := hdp
   have hzr := hbel.size
   by_cases hlt : k < l.length
   ·obtain ⟨x, hx⟩ : ∃ x, Hid (l[k]? = some x) := ⟨l[k], List.getElem?_eq_getElem _⟩
    have hAr := HA.out.below hbel
    obtain ⟨ad, hAd, _⟩ := hAr (by omega)
    subst hAd
    obtain ⟨hbl, A', c', hat, hac, h0, h1, h2, h3, h4⟩ := hAr.item hx.out
    have HAC : Hid (({ x with level := 1 } : ItemD).attrs.length ≤ c') := hac
    have HBL : Hid (ad.block < wr.heap.size) := Nat.lt_of_lt_of_le hbl hzr
    have HC0 := Lib.hid h0
    have HTOP : Hid (topOf (prevOf l k) ≤ (k : Int) + 1) := by
     show _ ≤ _
     cases hp : prevOf l k with
     | none => show (0 : Int) ≤ _; omega
     | some p => have := hpv.out p hp; show p.level + 1 ≤ _; omega
    clear hac
    unfold strV at h2 h3
    have HAR := Lib.hid hAr
    have HAT := Lib.hid hat
    clear hAr hat
    have hsx := Lib.hid (HS.out k x hx.out)
    have hin' := hin.out
    rw [forestF_drop hx.out] at hin'
    have hlt' : (k : Int) < l.length := by omega
    obtain ⟨W1, hW1⟩ : ∃ W1, Hid (W1 = wr.alloc (.cells #[.int .i64 x.level, .int .i64 x.kind, .string ⟨x.name.toArray⟩, .string ⟨x.text.toArray⟩, .slice A' x.attrs.length c'] 62)) := ⟨_, rfl⟩
    have hbW : Below wr.heap.size wr W1 := by rw [hW1.out]; exact (Below.refl _ wr).alloc (Nat.le_refl _) _
    have hzW : W1.heap.size = wr.heap.size + 1 := by rw [hW1.out]; simp
    have hbox1 : W1.heap[wr.heap.size]? = some (.cells #[.int .i64 x.level, .int .i64 x.kind, .string ⟨x.name.toArray⟩, .string ⟨x.text.toArray⟩, .slice A' x.attrs.length c'] 62 (0, 0)) := by rw [hW1.out]; exact heap_alloc_new wr _
    by_cases hk0 : k = 0
    ·have hT : Hid (topOf (prevOf l k) = 0) := by subst hk0; rfl
     have hX : Hid (isText (prevOf l k) = false) := by subst hk0; rfl
     have hkp : decide ((0 : Int) < (k : Int)) = false := by simp; omega
     have hkp2 : decide (0 < k) = false := by simp; omega
     have HBX := Lib.hid hbox1
     clear hbl hbox1 hk0
     go_upto_region 10 with (fail)
     rw [← hW1.out]
     obtain ⟨W2, hW2⟩ : ∃ W2, Hid (W1 = W2) := ⟨_, rfl⟩
     rw [hW2.out]
     rw [hW2.out] at HBX hbW
     have hbelo : Below w.heap.size w W2 := hbel.trans (hbW.mono hzr)
     have d0 := cell_row HBX.out 0 _ rfl
     clear h0 h1 h2 h3 h4
     by_cases c1 : x.level < 0
     ·have ho : foE (prevOf l k) x = 69 := by unfold foE; exact if_pos (.inl c1)
      rw [ho, if_neg (by decide)] at hin'
      have HIN := Lib.hid hin'
      clear ho hin'
      go_wp2_with fail
      go_ret2
      have hin := HIN.out
      injection hin with hn he
      exact ⟨by rw [← hn, ← he]; rfl, hbelo⟩
     have c1' : 0 ≤ x.level := by omega
     by_cases c2 : 0 < x.level
     ·have ho : foE (prevOf l k) x = 69 := by unfold foE; rw [if_pos (.inr (.inl (by rw [hT.out]; exact c2)))]
      rw [ho, if_neg (by decide)] at hin'
      have HIN := Lib.hid hin'
      clear ho hin'
      go_wp2_with fail
      go_ret2
      have hin := HIN.out
      injection hin with hn he
      exact ⟨by rw [← hn, ← he]; rfl, hbelo⟩
     have c2' : x.level ≤ 0 := by omega
     by_cases c3 : false = true ∧ x.level = 0
     ·obtain ⟨c31, c32⟩ := c3
      have ho : foE (prevOf l k) x = 69 := by unfold foE; rw [if_pos (.inr (.inr ⟨by rw [hX.out]; exact c31, by rw [hT.out]; exact c32⟩))]
      have c33 : (x.level == 0) = true := by simpa using c32
      clear c32
      cases c31
     have ho : foE (prevOf l k) x = partsE x := by
      unfold foE
      rw [if_neg]
      rintro (h | h | ⟨h, h'⟩)
      ·exact c1 h
      ·rw [hT.out] at h; exact c2 h
      ·rw [hX.out] at h; rw [hT.out] at h'; exact c3 ⟨h, h'⟩
     obtain ⟨f, hf⟩ : ∃ f, Hid (partsE x = f) := ⟨_, rfl⟩
     rw [ho, hf.out] at hin'
     have HIN := Lib.hid hin'
     have HFO : Hid (f = 0 → foE (prevOf l k) x = 0) := fun h => by rw [ho, hf.out, h]
     clear hin' ho
     have c3 : True := trivial
     clear c1 c2
     have f0 := free_row HBX.out 0
     obtain ⟨W3, hW3⟩ : ∃ W3, Hid (W2.setCell ⟨wr.heap.size, 0, none⟩ (.int .i64 1) = W3) := ⟨_, rfl⟩
     have HBX3 : Hid (W3.heap[wr.heap.size]? = some (.cells #[.int .i64 1, .int .i64 x.kind, .string ⟨x.name.toArray⟩, .string ⟨x.text.toArray⟩, .slice A' x.attrs.length c'] 62 (0, 0))) := by
      show _ = _
      rw [← hW3.out]
      exact Lib.heap_setCell_same (i := 0) HBX.out _
     have hb3 : Below wr.heap.size wr W3 := by rw [← hW3.out]; exact hbW.setCell (Nat.le_refl _) _
     obtain ⟨W4, hW4⟩ : ∃ W4, Hid (W4 = W3.alloc (.cells #[.int .i64 0, .int .i64 1, .string ⟨#[120]⟩, .string ⟨#[]⟩, .slice none 0 0, .int .i64 1, .int .i64 x.kind, .string ⟨x.name.toArray⟩, .string ⟨x.text.toArray⟩, .slice A' x.attrs.length c'] 62)) := ⟨_, rfl⟩
     have HBX4 : Hid (W4.heap[W3.heap.size]? = some (.cells #[.int .i64 0, .int .i64 1, .string ⟨#[120]⟩, .string ⟨#[]⟩, .slice none 0 0, .int .i64 1, .int .i64 x.kind, .string ⟨x.name.toArray⟩, .string ⟨x.text.toArray⟩, .slice A' x.attrs.length c'] 62 (0, 0))) := by
      show _ = _
      rw [hW4.out]
      exact heap_alloc_new W3 _
     have hb4 : Below wr.heap.size wr W4 := by rw [hW4.out]; exact hb3.alloc hb3.size _
     have hz4 : W4.heap.size = W3.heap.size + 1 := by rw [hW4.out]; simp
     have HI4 : Hid (ItemsAt W4 W4.heap.size (some ⟨W3.heap.size, 0, none⟩) [headX, { x with level := 1 }]) := fun _ => by
      refine ⟨_, rfl, by rw [hz4]; exact Nat.lt_succ_self _, fun k' x' hx' => ?_⟩
      rw [add_zero_block]
      match k', hx' with
      | 0, hx' =>
       injection hx' with hx'
       subst hx'
       exact ⟨none, 0, fun h => absurd h (by simp [headX]), Nat.le_refl _, cell_row HBX4.out 0 _ rfl, cell_row HBX4.out 1 _ rfl, cell_row HBX4.out 2 _ rfl, cell_row HBX4.out 3 _ rfl, cell_row HBX4.out 4 _ rfl⟩
      | 1, hx' =>
       injection hx' with hx'
       subst hx'
       exact ⟨A', c', (HAT.out.below (hb4.mono hzr)).more (by have := hb4.size; omega), HAC.out, cell_row HBX4.out 5 _ rfl, cell_row HBX4.out 6 _ rfl, cell_row HBX4.out 7 _ rfl, cell_row HBX4.out 8 _ rfl, cell_row HBX4.out 9 _ rfl⟩
      | k' + 2, hx' => simp at hx'
     have HSM : Hid (SmallItems [headX, { x with level := 1 }]) := ⟨by simp, fun k' x' hx' => by
      match k', hx' with
      | 0, hx' =>
       injection hx' with hx'
       subst hx'
       exact ⟨by simp [headX], by simp [headX], by simp [headX], fun k a h => by simp [headX] at h, by simp [headX]⟩
      | 1, hx' =>
       injection hx' with hx'
       subst hx'
       exact ⟨hsx.out.1, hsx.out.2.1, hsx.out.2.2.1, hsx.out.2.2.2.1, by simp⟩
      | k' + 2, hx' => simp at hx'⟩
     have hck := check_two x
     rw [hf.out] at hck
     have HCK := Lib.hid hck
     have HB4 := Lib.hid hb4
     have HZ4 := Lib.hid hz4
     have HB3 := Lib.hid hb3
     clear hck hb4 hz4 hb3
     go_upto_region 13 with (fail)
     rw [hW3.out]
     have e0 := cell_row HBX3.out 0 _ rfl
     have e1 := cell_row HBX3.out 1 _ rfl
     have e2 := cell_row HBX3.out 2 _ rfl
     have e3 := cell_row HBX3.out 3 _ rfl
     have e4 := cell_row HBX3.out 4 _ rfl
     clear d0 f0
     by_cases hf0 : f = 0
     ·subst hf0
      have hck : Hid (checkL [headX, { x with level := 1 }] = (0, 0)) := HCK.out
      go_wp2_with fail
      rw [← hW4.out]
      refine (Check_any [headX, { x with level := 1 }] (some ⟨W3.heap.size, 0, none⟩) 2 W4 HI4.out HSM.out 0 0 hck).mono ?_
      rintro er w5 ⟨rfl, hb5⟩
      have hb5' : Below wr.heap.size wr w5 := HB4.out.trans (hb5.mono HB4.out.size)
      have h0' : w5.cell? (ad.add (k * 5)) = some (.int .i64 x.level) := (hb5'.cell (by rw [block_of_add]; exact HBL.out)).trans HC0.out
      have HB5 := Lib.hid (hbel.trans (hb5'.mono hzr))
      clear e0 e1 e2 e3 e4 hb5 hb5'
      go_wp2_with fail
      go_roundw
      case rel =>
       have hin : forestF (prevOf l (k + 1)) (max dp x.level) (l.drop (k + 1)) = (n, e) := HIN.out
       obtain ⟨q0, q1, _, _⟩ := foE_zero (prev := prevOf l k) (x := x) (HFO.out (by trivial))
       have hpl : topOf (prevOf l k) ≤ (k : Int) + 1 := HTOP.out
       refine ⟨k + 1, max dp x.level, by omega, by go_num, by first | rfl | (congr 1; omega), by omega, hin, fun p hp => ?_, HB5.out⟩
       rw [prevOf_succ hx.out] at hp
       injection hp with hp
       subst hp
       exact ⟨q0, by omega⟩
      case measure => simp [intOf]; omega
     ·have hck : Hid (checkL [headX, { x with level := 1 }] = (1, f)) := by
       show _ = _
       rw [HCK.out, if_neg hf0]
      have hfn : (f != 0) = true := by simpa using hf0
      go_wp2_with fail
      rw [← hW4.out]
      refine (Check_any [headX, { x with level := 1 }] (some ⟨W3.heap.size, 0, none⟩) 2 W4 HI4.out HSM.out 1 f hck).mono ?_
      rintro er w5 ⟨rfl, hb5⟩
      have hb5' : Below wr.heap.size wr w5 := HB4.out.trans (hb5.mono HB4.out.size)
      have HB5 := Lib.hid (hbel.trans (hb5'.mono hzr))
      clear e0 e1 e2 e3 e4 hb5 hb5'
      go_wp2_with fail
      go_ret2
      have hin := HIN.out
      rw [if_neg hf0] at hin
      injection hin with hn he
      exact ⟨by rw [← hn, ← he]; rfl, HB5.out⟩
    ·obtain ⟨p, hp⟩ : ∃ p, l[k - 1]? = some p := ⟨l[k - 1], List.getElem?_eq_getElem (by omega)⟩
     have hpk : prevOf l k = some p := by unfold prevOf; rw [if_neg hk0]; exact hp
     have hT : Hid (topOf (prevOf l k) = p.level + 1) := by show _ = _; rw [hpk]; rfl
     have hX : Hid (isText (prevOf l k) = (p.kind == 2)) := by show _ = _; rw [hpk]; rfl
     obtain ⟨pl0, pl1⟩ := hpv.out p hpk
     have hk9 : (k : Int) ≤ 1000000000 := by omega
     obtain ⟨_, A2, c2', _, _, g0, g1, _, _, _⟩ := HAR.out.item hp
     have g0' : W1.cell? (ad.add ((k - 1) * 5)) = some (.int .i64 p.level) := (hbW.cell (by rw [block_of_add]; exact HBL.out)).trans g0
     have g1' : W1.cell? ⟨(ad.add ((k - 1) * 5)).block, (ad.add ((k - 1) * 5)).off + 1, none⟩ = some (.int .i64 p.kind) := (hbW.cell (by show (ad.add _).block < _; rw [block_of_add]; exact HBL.out)).trans g1
     have hkp : decide ((0 : Int) < (k : Int)) = true := by simp; omega
     have hkp2 : decide (0 < k) = true := by simp; omega
     have i1 : (0 : Int) ≤ (k : Int) := by omega
     have i2 : (1 : Int) ≤ (k : Int) := by omega
     have i4 : (0 : Int) ≤ (k : Int) - 1 := by omega
     have i5 : (k : Int) - 1 < l.length := by omega
     have HBX := Lib.hid hbox1
     clear hbl hbox1 hk0 hp hpk g0 g1
     go_wp2_with fail
     rw [← hW1.out]
     go_quiet (fail)
     obtain ⟨W2, hW2⟩ : ∃ W2, Hid (W1.drewN nq = W2) := ⟨_, rfl⟩
     rw [hW2.out]
     have HB12 : Hid (Below W1.heap.size W1 W2) := by
      show Below _ _ _
      rw [← hW2.out]
      exact ⟨rfl, rfl, rfl, Nat.le_refl _, fun _ _ => rfl⟩
     have HBX : Hid (W2.heap[wr.heap.size]? = some (.cells #[.int .i64 x.level, .int .i64 x.kind, .string ⟨x.name.toArray⟩, .string ⟨x.text.toArray⟩, .slice A' x.attrs.length c'] 62 (0, 0))) := (HB12.out.block _ (by omega)).trans HBX.out
     have hbW : Below wr.heap.size wr W2 := hbW.trans (HB12.out.mono (by omega))
     have hbelo : Below w.heap.size w W2 := hbel.trans (hbW.mono hzr)
     have d0 := cell_row HBX.out 0 _ rfl
     clear h0 h1 h2 h3 h4 g0' g1'
     by_cases c1 : x.level < 0
     ·have ho : foE (prevOf l k) x = 69 := by unfold foE; exact if_pos (.inl c1)
      rw [ho, if_neg (by decide)] at hin'
      have HIN := Lib.hid hin'
      clear ho hin'
      go_wp2_with fail
      go_ret2
      have hin := HIN.out
      injection hin with hn he
      exact ⟨by rw [← hn, ← he]; rfl, hbelo⟩
     have c1' : 0 ≤ x.level := by omega
     by_cases c2 : (p.level + 1) < x.level
     ·have ho : foE (prevOf l k) x = 69 := by unfold foE; rw [if_pos (.inr (.inl (by rw [hT.out]; exact c2)))]
      rw [ho, if_neg (by decide)] at hin'
      have HIN := Lib.hid hin'
      clear ho hin'
      go_wp2_with fail
      go_ret2
      have hin := HIN.out
      injection hin with hn he
      exact ⟨by rw [← hn, ← he]; rfl, hbelo⟩
     have c2' : x.level ≤ (p.level + 1) := by omega
     by_cases c3 : (p.kind == 2) = true ∧ x.level = (p.level + 1)
     ·obtain ⟨c31, c32⟩ := c3
      have ho : foE (prevOf l k) x = 69 := by unfold foE; rw [if_pos (.inr (.inr ⟨by rw [hX.out]; exact c31, by rw [hT.out]; exact c32⟩))]
      have c33 : (x.level == (p.level + 1)) = true := by simpa using c32
      clear c32
      rw [ho, if_neg (by decide)] at hin'
      have HIN := Lib.hid hin'
      clear ho hin'
      go_wp2_with fail
      go_ret2
      have hin := HIN.out
      injection hin with hn he
      exact ⟨by rw [← hn, ← he]; rfl, hbelo⟩
     have ho : foE (prevOf l k) x = partsE x := by
      unfold foE
      rw [if_neg]
      rintro (h | h | ⟨h, h'⟩)
      ·exact c1 h
      ·rw [hT.out] at h; exact c2 h
      ·rw [hX.out] at h; rw [hT.out] at h'; exact c3 ⟨h, h'⟩
     obtain ⟨f, hf⟩ : ∃ f, Hid (partsE x = f) := ⟨_, rfl⟩
     rw [ho, hf.out] at hin'
     have HIN := Lib.hid hin'
     have HFO : Hid (f = 0 → foE (prevOf l k) x = 0) := fun h => by rw [ho, hf.out, h]
     clear hin' ho
     have hc3 : (p.kind == 2) = false ∨ ((p.kind == 2) = true ∧ (x.level == (p.level + 1)) = false) := by
      cases hx' : (p.kind == 2) with
      | false => exact .inl rfl
      | true => exact .inr ⟨rfl, by simp only [beq_eq_false_iff_ne, ne_eq]; exact fun h => c3 ⟨hx', h⟩⟩
     clear c1 c2 c3
     rcases hc3 with c3 | ⟨c3, c33⟩
     ·have f0 := free_row HBX.out 0
      obtain ⟨W3, hW3⟩ : ∃ W3, Hid (W2.setCell ⟨wr.heap.size, 0, none⟩ (.int .i64 1) = W3) := ⟨_, rfl⟩
      have HBX3 : Hid (W3.heap[wr.heap.size]? = some (.cells #[.int .i64 1, .int .i64 x.kind, .string ⟨x.name.toArray⟩, .string ⟨x.text.toArray⟩, .slice A' x.attrs.length c'] 62 (0, 0))) := by
       show _ = _
       rw [← hW3.out]
       exact Lib.heap_setCell_same (i := 0) HBX.out _
      have hb3 : Below wr.heap.size wr W3 := by rw [← hW3.out]; exact hbW.setCell (Nat.le_refl _) _
      obtain ⟨W4, hW4⟩ : ∃ W4, Hid (W4 = W3.alloc (.cells #[.int .i64 0, .int .i64 1, .string ⟨#[120]⟩, .string ⟨#[]⟩, .slice none 0 0, .int .i64 1, .int .i64 x.kind, .string ⟨x.name.toArray⟩, .string ⟨x.text.toArray⟩, .slice A' x.attrs.length c'] 62)) := ⟨_, rfl⟩
      have HBX4 : Hid (W4.heap[W3.heap.size]? = some (.cells #[.int .i64 0, .int .i64 1, .string ⟨#[120]⟩, .string ⟨#[]⟩, .slice none 0 0, .int .i64 1, .int .i64 x.kind, .string ⟨x.name.toArray⟩, .string ⟨x.text.toArray⟩, .slice A' x.attrs.length c'] 62 (0, 0))) := by
       show _ = _
       rw [hW4.out]
       exact heap_alloc_new W3 _
      have hb4 : Below wr.heap.size wr W4 := by rw [hW4.out]; exact hb3.alloc hb3.size _
      have hz4 : W4.heap.size = W3.heap.size + 1 := by rw [hW4.out]; simp
      have HI4 : Hid (ItemsAt W4 W4.heap.size (some ⟨W3.heap.size, 0, none⟩) [headX, { x with level := 1 }]) := fun _ => by
       refine ⟨_, rfl, by rw [hz4]; exact Nat.lt_succ_self _, fun k' x' hx' => ?_⟩
       rw [add_zero_block]
       match k', hx' with
       | 0, hx' =>
        injection hx' with hx'
        subst hx'
        exact ⟨none, 0, fun h => absurd h (by simp [headX]), Nat.le_refl _, cell_row HBX4.out 0 _ rfl, cell_row HBX4.out 1 _ rfl, cell_row HBX4.out 2 _ rfl, cell_row HBX4.out 3 _ rfl, cell_row HBX4.out 4 _ rfl⟩
       | 1, hx' =>
        injection hx' with hx'
        subst hx'
        exact ⟨A', c', (HAT.out.below (hb4.mono hzr)).more (by have := hb4.size; omega), HAC.out, cell_row HBX4.out 5 _ rfl, cell_row HBX4.out 6 _ rfl, cell_row HBX4.out 7 _ rfl, cell_row HBX4.out 8 _ rfl, cell_row HBX4.out 9 _ rfl⟩
       | k' + 2, hx' => simp at hx'
      have HSM : Hid (SmallItems [headX, { x with level := 1 }]) := ⟨by simp, fun k' x' hx' => by
       match k', hx' with
       | 0, hx' =>
        injection hx' with hx'
        subst hx'
        exact ⟨by simp [headX], by simp [headX], by simp [headX], fun k a h => by simp [headX] at h, by simp [headX]⟩
       | 1, hx' =>
        injection hx' with hx'
        subst hx'
        exact ⟨hsx.out.1, hsx.out.2.1, hsx.out.2.2.1, hsx.out.2.2.2.1, by simp⟩
       | k' + 2, hx' => simp at hx'⟩
      have hck := check_two x
      rw [hf.out] at hck
      have HCK := Lib.hid hck
      have HB4 := Lib.hid hb4
      have HZ4 := Lib.hid hz4
      have HB3 := Lib.hid hb3
      clear hck hb4 hz4 hb3
      go_upto_region 13 with (fail)
      rw [hW3.out]
      have e0 := cell_row HBX3.out 0 _ rfl
      have e1 := cell_row HBX3.out 1 _ rfl
      have e2 := cell_row HBX3.out 2 _ rfl
      have e3 := cell_row HBX3.out 3 _ rfl
      have e4 := cell_row HBX3.out 4 _ rfl
      clear d0 f0
      by_cases hf0 : f = 0
      ·subst hf0
       have hck : Hid (checkL [headX, { x with level := 1 }] = (0, 0)) := HCK.out
       go_wp2_with fail
       rw [← hW4.out]
       refine (Check_any [headX, { x with level := 1 }] (some ⟨W3.heap.size, 0, none⟩) 2 W4 HI4.out HSM.out 0 0 hck).mono ?_
       rintro er w5 ⟨rfl, hb5⟩
       have hb5' : Below wr.heap.size wr w5 := HB4.out.trans (hb5.mono HB4.out.size)
       have h0' : w5.cell? (ad.add (k * 5)) = some (.int .i64 x.level) := (hb5'.cell (by rw [block_of_add]; exact HBL.out)).trans HC0.out
       have HB5 := Lib.hid (hbel.trans (hb5'.mono hzr))
       clear e0 e1 e2 e3 e4 hb5 hb5'
       go_wp2_with fail
       go_roundw
       case rel =>
        have hin : forestF (prevOf l (k + 1)) (max dp x.level) (l.drop (k + 1)) = (n, e) := HIN.out
        obtain ⟨q0, q1, _, _⟩ := foE_zero (prev := prevOf l k) (x := x) (HFO.out (by trivial))
        have hpl : topOf (prevOf l k) ≤ (k : Int) + 1 := HTOP.out
        refine ⟨k + 1, max dp x.level, by omega, by go_num, by first | rfl | (congr 1; omega), by omega, hin, fun p hp => ?_, HB5.out⟩
        rw [prevOf_succ hx.out] at hp
        injection hp with hp
        subst hp
        exact ⟨q0, by omega⟩
       case measure => simp [intOf]; omega
      ·have hck : Hid (checkL [headX, { x with level := 1 }] = (1, f)) := by
        show _ = _
        rw [HCK.out, if_neg hf0]
       have hfn : (f != 0) = true := by simpa using hf0
       go_wp2_with fail
       rw [← hW4.out]
       refine (Check_any [headX, { x with level := 1 }] (some ⟨W3.heap.size, 0, none⟩) 2 W4 HI4.out HSM.out 1 f hck).mono ?_
       rintro er w5 ⟨rfl, hb5⟩
       have hb5' : Below wr.heap.size wr w5 := HB4.out.trans (hb5.mono HB4.out.size)
       have HB5 := Lib.hid (hbel.trans (hb5'.mono hzr))
       clear e0 e1 e2 e3 e4 hb5 hb5'
       go_wp2_with fail
       go_ret2
       have hin := HIN.out
       rw [if_neg hf0] at hin
       injection hin with hn he
       exact ⟨by rw [← hn, ← he]; rfl, HB5.out⟩
     ·have f0 := free_row HBX.out 0
      obtain ⟨W3, hW3⟩ : ∃ W3, Hid (W2.setCell ⟨wr.heap.size, 0, none⟩ (.int .i64 1) = W3) := ⟨_, rfl⟩
      have HBX3 : Hid (W3.heap[wr.heap.size]? = some (.cells #[.int .i64 1, .int .i64 x.kind, .string ⟨x.name.toArray⟩, .string ⟨x.text.toArray⟩, .slice A' x.attrs.length c'] 62 (0, 0))) := by
       show _ = _
       rw [← hW3.out]
       exact Lib.heap_setCell_same (i := 0) HBX.out _
      have hb3 : Below wr.heap.size wr W3 := by rw [← hW3.out]; exact hbW.setCell (Nat.le_refl _) _
      obtain ⟨W4, hW4⟩ : ∃ W4, Hid (W4 = W3.alloc (.cells #[.int .i64 0, .int .i64 1, .string ⟨#[120]⟩, .string ⟨#[]⟩, .slice none 0 0, .int .i64 1, .int .i64 x.kind, .string ⟨x.name.toArray⟩, .string ⟨x.text.toArray⟩, .slice A' x.attrs.length c'] 62)) := ⟨_, rfl⟩
      have HBX4 : Hid (W4.heap[W3.heap.size]? = some (.cells #[.int .i64 0, .int .i64 1, .string ⟨#[120]⟩, .string ⟨#[]⟩, .slice none 0 0, .int .i64 1, .int .i64 x.kind, .string ⟨x.name.toArray⟩, .string ⟨x.text.toArray⟩, .slice A' x.attrs.length c'] 62 (0, 0))) := by
       show _ = _
       rw [hW4.out]
       exact heap_alloc_new W3 _
      have hb4 : Below wr.heap.size wr W4 := by rw [hW4.out]; exact hb3.alloc hb3.size _
      have hz4 : W4.heap.size = W3.heap.size + 1 := by rw [hW4.out]; simp
      have HI4 : Hid (ItemsAt W4 W4.heap.size (some ⟨W3.heap.size, 0, none⟩) [headX, { x with level := 1 }]) := fun _ => by
       refine ⟨_, rfl, by rw [hz4]; exact Nat.lt_succ_self _, fun k' x' hx' => ?_⟩
       rw [add_zero_block]
       match k', hx' with
       | 0, hx' =>
        injection hx' with hx'
        subst hx'
        exact ⟨none, 0, fun h => absurd h (by simp [headX]), Nat.le_refl _, cell_row HBX4.out 0 _ rfl, cell_row HBX4.out 1 _ rfl, cell_row HBX4.out 2 _ rfl, cell_row HBX4.out 3 _ rfl, cell_row HBX4.out 4 _ rfl⟩
       | 1, hx' =>
        injection hx' with hx'
        subst hx'
        exact ⟨A', c', (HAT.out.below (hb4.mono hzr)).more (by have := hb4.size; omega), HAC.out, cell_row HBX4.out 5 _ rfl, cell_row HBX4.out 6 _ rfl, cell_row HBX4.out 7 _ rfl, cell_row HBX4.out 8 _ rfl, cell_row HBX4.out 9 _ rfl⟩
       | k' + 2, hx' => simp at hx'
      have HSM : Hid (SmallItems [headX, { x with level := 1 }]) := ⟨by simp, fun k' x' hx' => by
       match k', hx' with
       | 0, hx' =>
        injection hx' with hx'
        subst hx'
        exact ⟨by simp [headX], by simp [headX], by simp [headX], fun k a h => by simp [headX] at h, by simp [headX]⟩
       | 1, hx' =>
        injection hx' with hx'
        subst hx'
        exact ⟨hsx.out.1, hsx.out.2.1, hsx.out.2.2.1, hsx.out.2.2.2.1, by simp⟩
       | k' + 2, hx' => simp at hx'⟩
      have hck := check_two x
      rw [hf.out] at hck
      have HCK := Lib.hid hck
      have HB4 := Lib.hid hb4
      have HZ4 := Lib.hid hz4
      have HB3 := Lib.hid hb3
      clear hck hb4 hz4 hb3
      go_upto_region 13 with (fail)
      rw [hW3.out]
      have e0 := cell_row HBX3.out 0 _ rfl
      have e1 := cell_row HBX3.out 1 _ rfl
      have e2 := cell_row HBX3.out 2 _ rfl
      have e3 := cell_row HBX3.out 3 _ rfl
      have e4 := cell_row HBX3.out 4 _ rfl
      clear d0 f0
      by_cases hf0 : f = 0
      ·subst hf0
       have hck : Hid (checkL [headX, { x with level := 1 }] = (0, 0)) := HCK.out
       go_wp2_with fail
       rw [← hW4.out]
       refine (Check_any [headX, { x with level := 1 }] (some ⟨W3.heap.size, 0, none⟩) 2 W4 HI4.out HSM.out 0 0 hck).mono ?_
       rintro er w5 ⟨rfl, hb5⟩
       have hb5' : Below wr.heap.size wr w5 := HB4.out.trans (hb5.mono HB4.out.size)
       have h0' : w5.cell? (ad.add (k * 5)) = some (.int .i64 x.level) := (hb5'.cell (by rw [block_of_add]; exact HBL.out)).trans HC0.out
       have HB5 := Lib.hid (hbel.trans (hb5'.mono hzr))
       clear e0 e1 e2 e3 e4 hb5 hb5'
       go_wp2_with fail
       go_roundw
       case rel =>
        have hin : forestF (prevOf l (k + 1)) (max dp x.level) (l.drop (k + 1)) = (n, e) := HIN.out
        obtain ⟨q0, q1, _, _⟩ := foE_zero (prev := prevOf l k) (x := x) (HFO.out (by trivial))
        have hpl : topOf (prevOf l k) ≤ (k : Int) + 1 := HTOP.out
        refine ⟨k + 1, max dp x.level, by omega, by go_num, by first | rfl | (congr 1; omega), by omega, hin, fun p hp => ?_, HB5.out⟩
        rw [prevOf_succ hx.out] at hp
        injection hp with hp
        subst hp
        exact ⟨q0, by omega⟩
       case measure => simp [intOf]; omega
      ·have hck : Hid (checkL [headX, { x with level := 1 }] = (1, f)) := by
        show _ = _
        rw [HCK.out, if_neg hf0]
       have hfn : (f != 0) = true := by simpa using hf0
       go_wp2_with fail
       rw [← hW4.out]
       refine (Check_any [headX, { x with level := 1 }] (some ⟨W3.heap.size, 0, none⟩) 2 W4 HI4.out HSM.out 1 f hck).mono ?_
       rintro er w5 ⟨rfl, hb5⟩
       have hb5' : Below wr.heap.size wr w5 := HB4.out.trans (hb5.mono HB4.out.size)
       have HB5 := Lib.hid (hbel.trans (hb5'.mono hzr))
       clear e0 e1 e2 e3 e4 hb5 hb5'
       go_wp2_with fail
       go_ret2
       have hin := HIN.out
       rw [if_neg hf0] at hin
       injection hin with hn he
       exact ⟨by rw [← hn, ← he]; rfl, HB5.out⟩
   ·have hlt' : ¬ (k : Int) < l.length := by omega
    have hdr : l.drop k = [] := List.drop_of_length_le (by omega)
    have hin' := hin.out
    rw [hdr] at hin'
    have HIN := Lib.hid hin'
    clear hin' hdr hin
    go_wp2_with fail
    go_ret2
    have hin' := HIN.out
    injection hin' with hn he
    exact ⟨by rw [← hn, ← he]; rfl, hbel⟩
end
end Go.Proofs.YtmkgajdgnmolkaaGreat
