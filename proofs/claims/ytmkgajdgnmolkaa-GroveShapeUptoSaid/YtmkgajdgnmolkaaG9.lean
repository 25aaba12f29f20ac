/-
  Texts of this claim, joined (by a program of the claim's author): GOpsC, GRdF, GOpP, GDoes, GAlive, GFew, GIn, GIds, OpenG, Open, GOpen, GCntP, GCnt, GShpP.
-/
import Derived.Test.YtmkgajdgnmolkaaG8
import Derived.Test.YtmkgajdgnmolkaaG2
import Derived.Test.YtmkgajdgnmolkaaG4
import Derived.Test.YtmkgajdgnmolkaaG1
import Derived.Test.YtmkgajdgnmolkaaRows
import Derived.Deep.Slices
import Derived.Deep.Fields
import Derived.ChangeSame
import Derived.Carry
import Derived.ProofKit
import Derived.Deep.RegionHeld
import Derived.IntWalk
/-
  Trees: a node's data turned, as the document says.
-/
namespace Go.Proofs.Ytmkgajdgnmolkaa
open Go.RowKit Go.Shelf

section
variable {w : World} {t mb : Nat} {y : Lay} {f : Fo} {next : Int}
theorem set_tp (hi : InvF f next) {id lv : Int} {e : Ent} {ks : Fo} {A B : List RowD} (he : f.ent 0 id = some e) (hs : Stand f id lv e.d ks A B) (u : NodeD → NodeD) (hk : ∀ d, (u d).kind = d.kind) (hok : partsE ((u e.d).at lv) = 0) {w' : World}
    (htp : TP t mb y (f.ent 0) w (fset (f.ent 0) id (some { e with d := u e.d })) (rootF f) next f.cnt w') : DoP t mb y f w (setL (f.flat 0) A.length u, next, 0, 0) w' := by
  obtain ⟨s1, s2, s3, s4, q', s5, s6⟩ := set_step hi hs u hk hok
  rw [he] at s5
  injection s5 with s5
  refine ⟨f.setD id u, s2.symm, s1, ?_⟩
  rw [s3, s4, s6]
  rw [s5] at htp
  exact htp
theorem SetText_F (h : TreeAt w t mb y (f.ent 0) (rootF f) next f.cnt) (hi : InvF f next) {id : Int} (hw : wfI id) (s : List UInt8) (hs : s.length ≤ maxLen) :
    Calls Try.prog 26 #[.pointer (some ⟨t, 0, none⟩), .int .i64 id, strV s] w (DoE t mb y f w (setTextL (f.flat 0) next id s)) := by
  refine (SetText_any h hw s hs).mono ?_
  rintro er w' ⟨rfl, htp⟩
  unfold setTextL
  unfold setTextG at htp ⊢
  cases he : f.ent 0 id with
  | none =>
    rw [find_ent he]
    rw [he] at htp
    exact ⟨rfl, rfl, f, rfl, hi, htp⟩
  | some e =>
    obtain ⟨lv, ks, A1, B1, hst, hkids, _, hlv, hparts, _⟩ := hi.stand he
    rw [hst.find]
    simp only [hst.get]
    rw [he] at htp
    simp only at htp ⊢
    rw [show (e.d.at lv).kind = e.d.kind from rfl]
    by_cases hk : e.d.kind ≠ 2
    · rw [if_pos hk, if_pos hk]
      rw [if_pos hk] at htp
      exact ⟨rfl, rfl, f, rfl, hi, htp⟩
    · rw [if_neg hk, if_neg hk]
      rw [if_neg hk] at htp
      have hte : textE s = charsE s := rfl
      rw [hte] at htp ⊢
      by_cases hc : charsE s ≠ 0
      · rw [if_pos hc, if_pos hc]
        rw [if_pos hc] at htp
        exact ⟨rfl, rfl, f, rfl, hi, htp⟩
      · rw [if_neg hc, if_neg hc]
        rw [if_neg hc] at htp
        have hk2 : (e.d.at lv).kind = 2 := Decidable.byContradiction hk
        obtain ⟨p1, p2, p3⟩ := (parts_text hk2).1 hparts
        refine ⟨rfl, rfl, set_tp hi he hst (fun d => { d with text := s }) (fun _ => rfl) ?_ htp⟩
        exact (parts_text (x := ({ e.d with text := s } : NodeD).at lv) hk2).2 ⟨p1, p2, Decidable.byContradiction hc⟩
theorem SetAttr_F (h : TreeAt w t mb y (f.ent 0) (rootF f) next f.cnt) (hi : InvF f next) {id : Int} (hw : wfI id) (name value : List UInt8) (hn : name.length ≤ maxLen) (hv : value.length ≤ maxLen) :
    Calls Try.prog 24 #[.pointer (some ⟨t, 0, none⟩), .int .i64 id, strV name, strV value] w (DoE t mb y f w (setAttrL (f.flat 0) next id name value)) := by
  refine (SetAttr_any h hw name value hn hv (fun id e he => by have := hi.attrs id e he; omega)).mono ?_
  rintro er w' ⟨k, hfind, rfl, htp⟩
  unfold setAttrL
  unfold setAttrG at htp ⊢
  cases he : f.ent 0 id with
  | none =>
    rw [find_ent he]
    rw [he] at htp
    exact ⟨rfl, rfl, f, rfl, hi, htp⟩
  | some e =>
    obtain ⟨lv, ks, A1, B1, hst, hkids, _, hlv, hparts, _⟩ := hi.stand he
    rw [hst.find]
    simp only [hst.get]
    rw [he] at htp
    simp only at htp ⊢
    rw [show (e.d.at lv).kind = e.d.kind from rfl]
    by_cases hk : e.d.kind ≠ 1
    · rw [if_pos hk, if_pos hk]
      rw [if_pos hk] at htp
      exact ⟨rfl, rfl, f, rfl, hi, htp⟩
    rw [if_neg hk, if_neg hk]
    rw [if_neg hk] at htp
    by_cases hnm : nameL name = false
    · rw [if_pos hnm, if_pos hnm]
      rw [if_pos hnm] at htp
      exact ⟨rfl, rfl, f, rfl, hi, htp⟩
    rw [if_neg hnm, if_neg hnm]
    rw [if_neg hnm] at htp
    have hte : textE value = charsE value := rfl
    rw [hte] at htp ⊢
    by_cases hc : charsE value ≠ 0
    · rw [if_pos hc, if_pos hc]
      rw [if_pos hc] at htp
      exact ⟨rfl, rfl, f, rfl, hi, htp⟩
    rw [if_neg hc, if_neg hc]
    rw [if_neg hc] at htp
    have hk1 : (e.d.at lv).kind = 1 := Decidable.byContradiction hk
    obtain ⟨p1, p2, p3, p4, p5, p6⟩ := (parts_elem hk1).1 hparts
    have p3' : RiseG e.d.attrs := p3
    have hfa := hfind e he hk1
    obtain ⟨r1, r2⟩ := with_rise (value := value) p3' hfa
    have hok : (withA e.d.attrs ⟨name, value⟩).length ≤ 20 → partsE (({ e.d with attrs := withA e.d.attrs ⟨name, value⟩ } : NodeD).at lv) = 0 := fun h20 => by
      refine (parts_elem (x := ({ e.d with attrs := withA e.d.attrs ⟨name, value⟩ } : NodeD).at lv) hk1).2 ⟨p1, p2, r1, fun a ha => ?_, h20, fun a ha => ?_⟩
      · rcases r2 a ha with rfl | ha
        · simpa using hnm
        · exact p4 a ha
      · rcases r2 a ha with rfl | ha
        · simpa using hc
        · exact p6 a ha
    have hat : (e.d.at lv).attrs = e.d.attrs := rfl
    have p5' : e.d.attrs.length ≤ 20 := p5
    rw [hat]
    cases hfd : foundB e.d.attrs name k with
    | true =>
      obtain ⟨w1, w2, w3⟩ := with_found (value := value) p3' hfa hfd
      rw [hfd, if_pos rfl] at htp
      have hl : ¬ (20 < (withA e.d.attrs ⟨name, value⟩).length) := by rw [w1, List.length_set]; omega
      rw [if_neg hl, if_pos rfl]
      refine ⟨rfl, rfl, set_tp hi he hst (fun d => { d with attrs := withA d.attrs ⟨name, value⟩ }) (fun _ => rfl) (hok (by omega)) ?_⟩
      rw [← w1] at htp
      exact htp
    | false =>
      obtain ⟨w1, w2⟩ := with_new (value := value) p3' hfa hfd
      have hkl := hfa.1
      have hwl : (withA e.d.attrs ⟨name, value⟩).length = e.d.attrs.length + 1 := by rw [w1]; simp; omega
      rw [hfd, if_neg (by decide)] at htp
      rw [if_neg (show ¬ (false = true) by decide)]
      by_cases h20 : 20 ≤ e.d.attrs.length
      · rw [if_pos h20, if_pos (show 20 < (withA e.d.attrs ⟨name, value⟩).length by omega)]
        rw [if_pos h20] at htp
        exact ⟨rfl, rfl, f, rfl, hi, htp⟩
      · rw [if_neg h20, if_neg (show ¬ 20 < (withA e.d.attrs ⟨name, value⟩).length by omega)]
        rw [if_neg h20] at htp
        refine ⟨rfl, rfl, set_tp hi he hst (fun d => { d with attrs := withA d.attrs ⟨name, value⟩ }) (fun _ => rfl) (hok (by omega)) ?_⟩
        rw [← w1] at htp
        exact htp
theorem DelAttr_F (h : TreeAt w t mb y (f.ent 0) (rootF f) next f.cnt) (hi : InvF f next) {id : Int} (hw : wfI id) (name : List UInt8) :
    Calls Try.prog 25 #[.pointer (some ⟨t, 0, none⟩), .int .i64 id, strV name] w (DoE t mb y f w (delAttrL (f.flat 0) next id name)) := by
  refine (DelAttr_any h hw name (fun id e he => by have := hi.attrs id e he; omega)).mono ?_
  rintro er w' ⟨k, hfind, rfl, htp⟩
  unfold delAttrL
  unfold delAttrG at htp ⊢
  cases he : f.ent 0 id with
  | none =>
    rw [find_ent he]
    rw [he] at htp
    exact ⟨rfl, rfl, f, rfl, hi, htp⟩
  | some e =>
    obtain ⟨lv, ks, A1, B1, hst, hkids, _, hlv, hparts, _⟩ := hi.stand he
    rw [hst.find]
    simp only [hst.get]
    rw [he] at htp
    simp only at htp ⊢
    rw [show (e.d.at lv).kind = e.d.kind from rfl]
    by_cases hk : e.d.kind ≠ 1
    · rw [if_pos hk, if_pos hk]
      rw [if_pos hk] at htp
      exact ⟨rfl, rfl, f, rfl, hi, htp⟩
    rw [if_neg hk, if_neg hk]
    rw [if_neg hk] at htp
    have hk1 : (e.d.at lv).kind = 1 := Decidable.byContradiction hk
    obtain ⟨p1, p2, p3, p4, p5, p6⟩ := (parts_elem hk1).1 hparts
    have p3' : RiseG e.d.attrs := p3
    have hfa := hfind e he hk1
    obtain ⟨r1, r2, r3⟩ := less_rise p3' name
    have hat : (e.d.at lv).attrs = e.d.attrs := rfl
    have p5' : e.d.attrs.length ≤ 20 := p5
    rw [hat]
    cases hfd : foundB e.d.attrs name k with
    | true =>
      obtain ⟨w1, w2, w3⟩ := with_found (value := []) p3' hfa hfd
      rw [hfd, if_pos rfl] at htp
      rw [if_pos rfl, if_neg (by rw [w2]; omega)]
      refine ⟨rfl, rfl, set_tp hi he hst (fun d => { d with attrs := lessA d.attrs name }) (fun _ => rfl) ?_ ?_⟩
      · exact (parts_elem (x := ({ e.d with attrs := lessA e.d.attrs name } : NodeD).at lv) hk1).2 ⟨p1, p2, r1, fun a ha => p4 a (r2 a ha), by show (lessA e.d.attrs name).length ≤ 20; omega, fun a ha => p6 a (r2 a ha)⟩
      · rw [← w2] at htp
        exact htp
    | false =>
      obtain ⟨w1, w2⟩ := with_new (value := []) p3' hfa hfd
      rw [hfd, if_neg (by decide)] at htp
      rw [if_neg (show ¬ (false = true) by decide), if_pos (show (lessA e.d.attrs name).length = e.d.attrs.length by rw [w2])]
      exact ⟨rfl, rfl, f, rfl, hi, htp⟩
end
end Go.Proofs.Ytmkgajdgnmolkaa

/-
  Trees: what is told of one, as the document says.
-/
namespace Go.Proofs.Ytmkgajdgnmolkaa
open Go.RowKit Go.Shelf

/-- what Items tells -/
def itemsAt (L : List RowD) (id : Int) : List ItemD := match findL L id with
  | some k => itemsL L k
  | none => []
theorem item_row {g : Int → Option Ent} : ∀ (F : Fo) (q lv : Int), Agr g q F → ∀ r ∈ F.flat lv, itemG g (r.id, r.x.level) = r.x
  | .nil, _, _, _, r, h => by cases h
  | .cons id d ks r, q, lv, ⟨a1, a2, a3⟩, z, h => by
    rw [Fo.flat] at h
    rcases List.mem_cons.1 h with rfl | h
    · unfold itemG
      simp only [a1]
      rfl
    rcases List.mem_append.1 h with h | h
    · exact item_row ks id (lv + 1) a2 z h
    · exact item_row r q lv a3 z h
theorem items_stand {f : Fo} {p lv : Int} {d : NodeD} {ks : Fo} {A B : List RowD} (hs : Stand f p lv d ks A B) : itemsAt (f.flat 0) p = ((Fo.cons p d ks .nil).flat 0).map (·.x) := by
  unfold itemsAt
  rw [hs.find]
  show itemsL _ _ = _
  unfold itemsL
  rw [hs.part, hs.lvl]
  have := Fo.flat_shift (.cons p d ks .nil) lv lv
  rw [Int.sub_self] at this
  rw [← this]
  unfold partL
  simp [Fo.flat]
theorem items_vis {g : Int → Option Ent} {q p : Int} {d : NodeD} {ks : Fo} (ha : Agr g q (.cons p d ks .nil)) : (visT 0 (p, d, ks)).map (itemG g) = ((Fo.cons p d ks .nil).flat 0).map (·.x) := by
  rw [visT_flat, List.map_map]
  exact List.map_congr_left fun r hr => item_row _ q 0 ha r hr
section
variable {w : World} {t mb : Nat} {y : Lay} {f : Fo} {next : Int}
theorem agr_at (hi : InvF f next) {id lv : Int} {e : Ent} {ks : Fo} {A B : List RowD} (he : f.ent 0 id = some e) (hs : Stand f id lv e.d ks A B) (hk : e.kids = ks.roots) : Agr (f.ent 0) e.par (.cons id e.d ks .nil) := by
  have hks := Fo.sub_ent f id 0 0 lv e.d ks hi.nd hs.sub
  exact ⟨by rw [he, ← hk], Fo.agr_of ks id _ hks.2.2.1 hks.2.1, trivial⟩
theorem Order_F (h : TreeAt w t mb y (f.ent 0) (rootF f) next f.cnt) (hi : InvF f next) :
    Calls Try.prog 11 #[.pointer (some ⟨t, 0, none⟩)] w fun e w' => ∃ v, e = .returned v ∧ intRow w' v f.ids ∧ Below w.heap.size w w' ∧ ∀ b, v.ownBlock = some b → w.heap.size ≤ b := by
  have hcn := hi.cnt
  cases f with
  | nil => exact Order_g [] (by simp) w h fun w' bt bi bl ht h1 h2 _ => none_iter 0 ⟨by omega, by omega⟩ rfl w' bt bi bl ht h1 h2
  | cons id d ks r =>
    obtain ⟨rfl, _⟩ := hi.one id d ks r rfl
    have hag := Fo.agr_ent (.cons id d ks .nil) 0 hi.nd
    have hc : ks.cnt ≤ 1000 := by simp only [Fo.cnt] at hcn; omega
    have := Order_g (visT 0 (id, d, ks)) (by rw [visT_len]; omega) w h (iter_of hi.wf hag (by omega) y)
    rw [visT_ids] at this
    rw [show (Fo.cons id d ks .nil).ids = id :: ks.ids by simp [Fo.ids]]
    exact this
theorem Items_F (h : TreeAt w t mb y (f.ent 0) (rootF f) next f.cnt) (hi : InvF f next) {id : Int} (hw : wfI id) :
    Calls Try.prog 12 #[.pointer (some ⟨t, 0, none⟩), .int .i64 id] w fun e w' => ∃ A c S, e = .returned (.slice A S.length c) ∧ S.map (·.1) = itemsAt (f.flat 0) id ∧ ItemsOwn w' w.heap.size A c S ∧
      (∀ s ∈ S, AttrsOwn w' w.heap.size s.2.1 s.2.2 s.1.attrs) ∧ Below w.heap.size w w' := by
  have hcn := hi.cnt
  have hal : ∀ id e, f.ent 0 id = some e → e.d.attrs.length ≤ 1000000000 := fun id e he => by have := hi.attrs id e he; omega
  cases he : f.ent 0 id with
  | none =>
    have : itemsAt (f.flat 0) id = ([] : List (Int × Int)).map (itemG (f.ent 0)) := by unfold itemsAt; rw [find_ent he]; rfl
    rw [this]
    exact Items_g id [] (by simp) w h (fun w' bt bi bl ht h1 h2 _ => none_iter id hw he w' bt bi bl ht h1 h2) (by simp) hi.wf hal
  | some e =>
    obtain ⟨lv, ks, A1, B1, hst, hkids, _⟩ := hi.stand he
    have hag := agr_at hi he hst hkids
    have hks := Fo.sub_ent f id 0 0 lv e.d ks hi.nd hst.sub
    rw [items_stand hst, ← items_vis hag]
    refine Items_g id _ (by rw [visT_len]; have := hks.2.2.2.2.2.1; omega) w h (iter_of hi.wf hag (by have := hks.2.2.2.2.2.1; omega) y) (fun x hx => ?_) hi.wf hal
    have hx' : x.1 ∈ id :: ks.ids := by rw [← visT_ids id e.d ks 0]; exact List.mem_map_of_mem hx
    refine Fo.ent_some f 0 x.1 ?_
    rcases List.mem_cons.1 hx' with h1 | h1
    · rw [h1]; exact hst.mem
    · exact hks.2.2.2.2.1 _ h1
end

/-! ## What the calls do to ids -/
def IdsP (L : List RowD) (next : Int) (o : OpD) (a : Ans) : Prop := a.2.1 = next + (if a.2.2.2 = 0 ∧ (o.kind = 0 ∨ o.kind = 1) then (o.l.length : Int) else 0) ∧ (a.2.2.2 = 0 → (o.kind = 0 ∨ o.kind = 1) → a.2.2.1 = next) ∧ (a.2.2.2 ≠ 0 → a = (L, next, 0, a.2.2.2))
theorem IdsP.no {L : List RowD} {next : Int} {o : OpD} (e : Int) (he : e ≠ 0) : IdsP L next o (L, next, 0, e) := by
  refine ⟨?_, fun h => absurd h he, fun _ => rfl⟩
  rw [if_neg (fun h => he h.1)]
  show next = next + 0
  omega
theorem IdsP.ok {L L' : List RowD} {next : Int} {o : OpD} (h : o.kind ≠ 0 ∧ o.kind ≠ 1) : IdsP L next o (L', next, 0, 0) := by
  refine ⟨?_, fun _ h' => by omega, fun h => absurd rfl h⟩
  rw [if_neg (by omega)]
  show next = next + 0
  omega
theorem IdsP.more {L L' : List RowD} {next : Int} {o : OpD} (h : o.kind = 0 ∨ o.kind = 1) : IdsP L next o (L', next + (o.l.length : Int), next, 0) := by
  refine ⟨?_, fun _ _ => rfl, fun h => absurd rfl h⟩
  rw [if_pos ⟨rfl, h⟩]
theorem do_ids (L : List RowD) (next : Int) (o : OpD) : IdsP L next o (doL L next o) := by
  unfold doL
  by_cases k0 : o.kind = 0
  · rw [if_pos k0]
    unfold loadL
    by_cases h : (checkL o.l).2 ≠ 0
    · rw [if_pos h]; exact .no _ h
    rw [if_neg h]
    split
    · exact .no _ (by decide)
    · exact .more (.inl k0)
  rw [if_neg k0]
  by_cases k1 : o.kind = 1
  · rw [if_pos k1]
    unfold insertL
    cases findL L o.id with
    | none => exact .no _ (by decide)
    | some k =>
      simp only
      cases L[k]? with
      | none => exact .no _ (by decide)
      | some r =>
        simp only
        by_cases h1 : r.x.kind ≠ 1
        · rw [if_pos h1]; exact .no _ (by decide)
        rw [if_neg h1]
        by_cases h2 : o.pl < 0 ∨ ((kidsL L k).length : Int) < o.pl
        · rw [if_pos h2]; exact .no _ (by decide)
        rw [if_neg h2]
        by_cases h3 : (forestL o.l).2 ≠ 0
        · rw [if_pos h3]; exact .no _ h3
        rw [if_neg h3]
        by_cases h4 : 40 ≤ r.x.level + 1 + (forestL o.l).1
        · rw [if_pos h4]; exact .no _ (by decide)
        rw [if_neg h4]
        by_cases h5 : 1000 < L.length + o.l.length ∨ 2147483647 < next + (o.l.length : Int)
        · rw [if_pos h5]; exact .no _ (by decide)
        rw [if_neg h5]
        exact .more (.inr k1)
  rw [if_neg k1]
  by_cases k2 : o.kind = 2
  · rw [if_pos k2]
    unfold deleteL
    cases findL L o.id with
    | none => exact .no _ (by decide)
    | some k =>
      simp only
      split
      · exact .no _ (by decide)
      · exact .ok ⟨k0, k1⟩
  rw [if_neg k2]
  by_cases k3 : o.kind = 3
  · rw [if_pos k3]
    unfold moveL
    cases findL L o.id with
    | none => exact .no _ (by decide)
    | some k =>
      cases findL L o.to with
      | none => exact .no _ (by decide)
      | some p =>
        simp only
        by_cases h1 : k = 0
        · rw [if_pos h1]; exact .no _ (by decide)
        rw [if_neg h1]
        cases L[p]? with
        | none => exact .no _ (by decide)
        | some r =>
          simp only
          by_cases h2 : r.x.kind ≠ 1
          · rw [if_pos h2]; exact .no _ (by decide)
          rw [if_neg h2]
          by_cases h3 : k ≤ p ∧ p < endL L k
          · rw [if_pos h3]; exact .no _ (by decide)
          rw [if_neg h3]
          cases findL (withoutL L k) o.to with
          | none => exact .no _ (by decide)
          | some q =>
            simp only
            split
            · exact .no _ (by decide)
            split
            · exact .no _ (by decide)
            · exact .ok ⟨k0, k1⟩
  rw [if_neg k3]
  by_cases k4 : o.kind = 4
  · rw [if_pos k4]
    unfold setAttrL
    cases findL L o.id with
    | none => exact .no _ (by decide)
    | some k =>
      simp only
      cases L[k]? with
      | none => exact .no _ (by decide)
      | some r =>
        simp only
        by_cases h1 : r.x.kind ≠ 1
        · rw [if_pos h1]; exact .no _ (by decide)
        rw [if_neg h1]
        by_cases h2 : nameL o.name = false
        · rw [if_pos h2]; exact .no _ (by decide)
        rw [if_neg h2]
        by_cases h3 : charsE o.text ≠ 0
        · rw [if_pos h3]; exact .no _ h3
        rw [if_neg h3]
        split
        · exact .no _ (by decide)
        · exact .ok ⟨k0, k1⟩
  rw [if_neg k4]
  by_cases k5 : o.kind = 5
  · rw [if_pos k5]
    unfold delAttrL
    cases findL L o.id with
    | none => exact .no _ (by decide)
    | some k =>
      simp only
      cases L[k]? with
      | none => exact .no _ (by decide)
      | some r =>
        simp only
        by_cases h1 : r.x.kind ≠ 1
        · rw [if_pos h1]; exact .no _ (by decide)
        rw [if_neg h1]
        split
        · exact .no _ (by decide)
        · exact .ok ⟨k0, k1⟩
  rw [if_neg k5]
  by_cases k6 : o.kind = 6
  · rw [if_pos k6]
    unfold setTextL
    cases findL L o.id with
    | none => exact .no _ (by decide)
    | some k =>
      simp only
      cases L[k]? with
      | none => exact .no _ (by decide)
      | some r =>
        simp only
        by_cases h1 : r.x.kind ≠ 2
        · rw [if_pos h1]; exact .no _ (by decide)
        rw [if_neg h1]
        by_cases h3 : charsE o.text ≠ 0
        · rw [if_pos h3]; exact .no _ h3
        rw [if_neg h3]
        exact .ok ⟨k0, k1⟩
  rw [if_neg k6]
  exact .ok ⟨k0, k1⟩
end Go.Proofs.Ytmkgajdgnmolkaa

/-
  Trees: calls that stand in a row in memory.
-/
namespace Go.Proofs.Ytmkgajdgnmolkaa
open Go.RowKit

def opVal (o : OpD) (A : Option Addr) (c : Nat) : Array Value := #[.int .i64 o.kind, .int .i64 o.id, .int .i64 o.to, .int .i64 o.pl, strV o.name, strV o.text, .slice A o.l.length c]
def OpCells (w : World) (ad : Addr) (k : Nat) (o : OpD) (A : Option Addr) (c : Nat) : Prop :=
  w.cell? (ad.add (k * 7)) = some (.int .i64 o.kind) ∧ w.cell? ⟨(ad.add (k * 7)).block, (ad.add (k * 7)).off + 1, none⟩ = some (.int .i64 o.id) ∧ w.cell? ⟨(ad.add (k * 7)).block, (ad.add (k * 7)).off + 2, none⟩ = some (.int .i64 o.to) ∧
  w.cell? ⟨(ad.add (k * 7)).block, (ad.add (k * 7)).off + 3, none⟩ = some (.int .i64 o.pl) ∧ w.cell? ⟨(ad.add (k * 7)).block, (ad.add (k * 7)).off + 4, none⟩ = some (strV o.name) ∧ w.cell? ⟨(ad.add (k * 7)).block, (ad.add (k * 7)).off + 5, none⟩ = some (strV o.text) ∧
  w.cell? ⟨(ad.add (k * 7)).block, (ad.add (k * 7)).off + 6, none⟩ = some (.slice A o.l.length c)
def OpsAt (w : World) (B : Nat) (A : Option Addr) (l : List OpD) : Prop :=
  0 < l.length → ∃ ad, A = some ad ∧ ad.block < B ∧ ∀ k o, l[k]? = some o → ∃ A' c, ItemsAt w B A' o.l ∧ o.l.length ≤ c ∧ OpCells w ad k o A' c
def SmallOp (o : OpD) : Prop := (wfI o.kind ∧ wfI o.id ∧ wfI o.to ∧ wfI o.pl) ∧ o.name.length ≤ 1000000000 ∧ o.text.length ≤ 1000000000 ∧ SmallItems o.l
def SmallOps (l : List OpD) : Prop := l.length ≤ 1048576 ∧ ∀ o ∈ l, SmallOp o ∧ o.l.length ≤ 1048576
variable {w w' : World} {B B' : Nat} {A : Option Addr} {l : List OpD}
theorem OpsAt.keep (h : OpsAt w B A l) (hk : ∀ p : Addr, p.block < B → w'.cell? p = w.cell? p) : OpsAt w' B A l := fun hp => by
  obtain ⟨ad, h1, h2, h3⟩ := h hp
  refine ⟨ad, h1, h2, fun k o ho => ?_⟩
  obtain ⟨A', c, k1, k2, k3, k4, k5, k6, k7, k8, k9⟩ := h3 k o ho
  have hb : (ad.add (k * 7)).block < B := by rw [block_of_add]; exact h2
  exact ⟨A', c, k1.keep hk, k2, (hk _ (by exact hb)).trans k3, (hk _ (by exact hb)).trans k4, (hk _ (by exact hb)).trans k5, (hk _ (by exact hb)).trans k6, (hk _ (by exact hb)).trans k7, (hk _ (by exact hb)).trans k8, (hk _ (by exact hb)).trans k9⟩
theorem OpsAt.more (h : OpsAt w B A l) (hB : B ≤ B') : OpsAt w B' A l := fun hp => by
  obtain ⟨ad, h1, h2, h3⟩ := h hp
  refine ⟨ad, h1, by omega, fun k o ho => ?_⟩
  obtain ⟨A', c, k1, k2⟩ := h3 k o ho
  exact ⟨A', c, k1.more hB, k2⟩
theorem OpsAt.below (h : OpsAt w B A l) (hb : Below B w w') : OpsAt w' B A l := h.keep fun _ hp => hb.cell hp
end Go.Proofs.Ytmkgajdgnmolkaa

/-
  Trees: a call of the laws.
-/
namespace Go.Proofs.Ytmkgajdgnmolkaa
open Go.RowKit Go.Shelf

section
variable {w W1 : World} {t mb : Nat} {y : Lay} {f : Fo} {next : Int}
theorem DoP.back {a : Ans} {w' : World} (h : DoP t mb y f W1 a w') (hb : Below w.heap.size w W1) : DoP t mb y f w a w' := by
  obtain ⟨f', h1, h2, mb', y', h3, h4⟩ := h
  exact ⟨f', h1, h2, mb', y', h3, Grows.trans (Grows.of_below hb) h4⟩
set_option maxRecDepth 100000 in
set_option maxHeartbeats 2000000 in
theorem does_any (h : TreeAt w t mb y (f.ent 0) (rootF f) next f.cnt) (hi : InvF f next) (o : OpD) (A : Option Addr) (c B : Nat) (hl : StandI (Mine t mb y (f.ent 0)) w B A o.l) (hBw : B ≤ w.heap.size) (hs : SmallOp o) :
    Calls Try.prog 10 #[.pointer (some ⟨t, 0, none⟩), .agg (opVal o A c)] w (DoI t mb y f w (doL (f.flat 0) next o)) := by
  obtain ⟨⟨wk, wi, wt, wp⟩, hn, ht, hsi⟩ := hs
  obtain ⟨W1, hW1⟩ : ∃ W1, Hid (W1 = w.alloc (.cells (opVal o A c) 29)) := ⟨_, rfl⟩
  have hb1 : Below w.heap.size w W1 := by rw [hW1.out]; exact (Below.refl _ w).alloc (Nat.le_refl _) _
  have hX1 : W1.heap[w.heap.size]? = some (.cells (opVal o A c) 29 (0, 0)) := by rw [hW1.out]; exact heap_alloc_new w _
  have d0 := cell_row hX1 0 _ rfl
  have d1 := cell_row hX1 1 _ rfl
  have d2 := cell_row hX1 2 _ rfl
  have d3 := cell_row hX1 3 _ rfl
  have d4 := cell_row hX1 4 _ rfl
  have d5 := cell_row hX1 5 _ rfl
  have d6 := cell_row hX1 6 _ rfl
  have H1 := Lib.hid (h.below hb1)
  have HL1 := Lib.hid (hl.grow (Grows.of_below hb1))
  have HBW : Hid (B ≤ W1.heap.size) := Nat.le_trans hBw hb1.size
  have HS := Lib.hid hsi
  have HI := Lib.hid hi
  have HB1 := Lib.hid hb1
  have hn' : o.name.length ≤ maxLen := by unfold maxLen; omega
  have ht' : o.text.length ≤ maxLen := by unfold maxLen; omega
  have HN := Lib.hid hn'
  have HT := Lib.hid ht'
  have hW1' := hW1.out
  unfold opVal at hW1'
  replace hW1 := Lib.hid hW1'
  unfold strV at d4 d5 hW1
  clear h hl hsi hi hb1 hX1 hn ht hn' ht' hBw hW1'
  obtain ⟨ans, hans⟩ : ∃ a, Hid (doL (f.flat 0) next o = a) := ⟨_, rfl⟩
  rw [hans.out]
  unfold opVal strV
  by_cases k0 : o.kind = 0
  · have e0 : (o.kind == 0) = true := by simpa using k0
    have ha : Hid (ans = loadL (f.flat 0) next o.l) := by show _ = _; rw [← hans.out]; unfold doL; rw [if_pos k0]
    clear k0 hans
    go_enter Try.func10, Try.ntmps10
    go_wp2_with fail
    rw [← hW1.out]
    refine (Load_F H1.out HI.out o.l A c B HL1.out HBW.out HS.out).mono ?_
    rintro er w' ⟨rfl, hp⟩
    have HP := Lib.hid hp
    clear hp
    go_wp2_with fail
    go_ret2
    rw [ha.out]
    exact ⟨rfl, HP.out.back HB1.out⟩
  have n0 := k0
  have e0 : (o.kind == 0) = false := by simpa using k0
  clear k0
  by_cases k1 : o.kind = 1
  · have e1 : (o.kind == 1) = true := by simpa using k1
    have ha : Hid (ans = insertL (f.flat 0) next o.id o.pl o.l) := by show _ = _; rw [← hans.out]; unfold doL; rw [if_neg n0]; rw [if_pos k1]
    clear k1 hans n0
    go_enter Try.func10, Try.ntmps10
    go_wp2_with fail
    rw [← hW1.out]
    refine (Insert_F H1.out HI.out wi o.pl o.l A c B HL1.out HBW.out HS.out).mono ?_
    rintro er w' ⟨rfl, hp⟩
    have HP := Lib.hid hp
    clear hp
    go_wp2_with fail
    go_ret2
    rw [ha.out]
    exact ⟨rfl, HP.out.back HB1.out⟩
  have n1 := k1
  have e1 : (o.kind == 1) = false := by simpa using k1
  clear k1
  by_cases k2 : o.kind = 2
  · have e2 : (o.kind == 2) = true := by simpa using k2
    have ha : Hid (ans = deleteL (f.flat 0) next o.id) := by show _ = _; rw [← hans.out]; unfold doL; rw [if_neg n0]; rw [if_neg n1]; rw [if_pos k2]
    clear k2 hans n0 n1
    go_enter Try.func10, Try.ntmps10
    go_wp2_with fail
    rw [← hW1.out]
    refine (Delete_F H1.out HI.out wi).mono ?_
    rintro er w' ⟨h0, rfl, hp⟩
    have H0 := Lib.hid h0
    clear h0
    have HP := Lib.hid hp
    clear hp
    go_wp2_with fail
    go_ret2
    rw [ha.out]
    exact ⟨by rw [H0.out]; rfl, HP.out.back HB1.out⟩
  have n2 := k2
  have e2 : (o.kind == 2) = false := by simpa using k2
  clear k2
  by_cases k3 : o.kind = 3
  · have e3 : (o.kind == 3) = true := by simpa using k3
    have ha : Hid (ans = moveL (f.flat 0) next o.id o.to o.pl) := by show _ = _; rw [← hans.out]; unfold doL; rw [if_neg n0]; rw [if_neg n1]; rw [if_neg n2]; rw [if_pos k3]
    clear k3 hans n0 n1 n2
    go_enter Try.func10, Try.ntmps10
    go_wp2_with fail
    rw [← hW1.out]
    refine (Move_F H1.out HI.out wi wt o.pl).mono ?_
    rintro er w' ⟨h0, rfl, hp⟩
    have H0 := Lib.hid h0
    clear h0
    have HP := Lib.hid hp
    clear hp
    go_wp2_with fail
    go_ret2
    rw [ha.out]
    exact ⟨by rw [H0.out]; rfl, HP.out.back HB1.out⟩
  have n3 := k3
  have e3 : (o.kind == 3) = false := by simpa using k3
  clear k3
  by_cases k4 : o.kind = 4
  · have e4 : (o.kind == 4) = true := by simpa using k4
    have ha : Hid (ans = setAttrL (f.flat 0) next o.id o.name o.text) := by show _ = _; rw [← hans.out]; unfold doL; rw [if_neg n0]; rw [if_neg n1]; rw [if_neg n2]; rw [if_neg n3]; rw [if_pos k4]
    clear k4 hans n0 n1 n2 n3
    go_enter Try.func10, Try.ntmps10
    go_wp2_with fail
    rw [← hW1.out]
    refine (SetAttr_F H1.out HI.out wi o.name o.text HN.out HT.out).mono ?_
    rintro er w' ⟨h0, rfl, hp⟩
    have H0 := Lib.hid h0
    clear h0
    have HP := Lib.hid hp
    clear hp
    go_wp2_with fail
    go_ret2
    rw [ha.out]
    exact ⟨by rw [H0.out]; rfl, HP.out.back HB1.out⟩
  have n4 := k4
  have e4 : (o.kind == 4) = false := by simpa using k4
  clear k4
  by_cases k5 : o.kind = 5
  · have e5 : (o.kind == 5) = true := by simpa using k5
    have ha : Hid (ans = delAttrL (f.flat 0) next o.id o.name) := by show _ = _; rw [← hans.out]; unfold doL; rw [if_neg n0]; rw [if_neg n1]; rw [if_neg n2]; rw [if_neg n3]; rw [if_neg n4]; rw [if_pos k5]
    clear k5 hans n0 n1 n2 n3 n4
    go_enter Try.func10, Try.ntmps10
    go_wp2_with fail
    rw [← hW1.out]
    refine (DelAttr_F H1.out HI.out wi o.name).mono ?_
    rintro er w' ⟨h0, rfl, hp⟩
    have H0 := Lib.hid h0
    clear h0
    have HP := Lib.hid hp
    clear hp
    go_wp2_with fail
    go_ret2
    rw [ha.out]
    exact ⟨by rw [H0.out]; rfl, HP.out.back HB1.out⟩
  have n5 := k5
  have e5 : (o.kind == 5) = false := by simpa using k5
  clear k5
  by_cases k6 : o.kind = 6
  · have e6 : (o.kind == 6) = true := by simpa using k6
    have ha : Hid (ans = setTextL (f.flat 0) next o.id o.text) := by show _ = _; rw [← hans.out]; unfold doL; rw [if_neg n0]; rw [if_neg n1]; rw [if_neg n2]; rw [if_neg n3]; rw [if_neg n4]; rw [if_neg n5]; rw [if_pos k6]
    clear k6 hans n0 n1 n2 n3 n4 n5
    go_enter Try.func10, Try.ntmps10
    go_wp2_with fail
    rw [← hW1.out]
    refine (SetText_F H1.out HI.out wi o.text HT.out).mono ?_
    rintro er w' ⟨h0, rfl, hp⟩
    have H0 := Lib.hid h0
    clear h0
    have HP := Lib.hid hp
    clear hp
    go_wp2_with fail
    go_ret2
    rw [ha.out]
    exact ⟨by rw [H0.out]; rfl, HP.out.back HB1.out⟩
  have n6 := k6
  have e6 : (o.kind == 6) = false := by simpa using k6
  clear k6
  have ha : Hid (ans = (f.flat 0, next, 0, 0)) := by show _ = _; rw [← hans.out]; unfold doL; rw [if_neg n0]; rw [if_neg n1]; rw [if_neg n2]; rw [if_neg n3]; rw [if_neg n4]; rw [if_neg n5]; rw [if_neg n6]
  clear hans n0 n1 n2 n3 n4 n5 n6
  go_enter Try.func10, Try.ntmps10
  go_wp2_with fail
  rw [← hW1.out]
  go_ret2
  rw [ha.out]
  exact ⟨rfl, (same_tp H1.out HI.out (Below.refl _ _) _ _).back HB1.out⟩
end
end Go.Proofs.Ytmkgajdgnmolkaa

/-
  Trees: one that grows.
-/
namespace Go.Proofs.Ytmkgajdgnmolkaa
open Go.RowKit Go.Shelf

def docD : List ItemD := [⟨0, 1, [97], [], []⟩, ⟨1, 2, [], [120], []⟩]
def docD2 : List ItemD := [⟨0, 1, [98], [], []⟩, ⟨1, 2, [], [121], []⟩]
def rows1 : List RowD := [⟨1, ⟨0, 1, [97], [], []⟩⟩, ⟨2, ⟨1, 2, [], [120], []⟩⟩]
def rows2 : List RowD := [⟨1, ⟨0, 1, [97], [], []⟩⟩, ⟨2, ⟨1, 2, [], [120], []⟩⟩, ⟨3, ⟨1, 1, [98], [], []⟩⟩, ⟨4, ⟨2, 2, [], [121], []⟩⟩]
def rows3 : List RowD := [⟨1, ⟨0, 1, [97], [], []⟩⟩, ⟨3, ⟨1, 1, [98], [], []⟩⟩, ⟨4, ⟨2, 2, [], [121], []⟩⟩, ⟨2, ⟨1, 2, [], [120], []⟩⟩]
theorem alive1 : loadL [] 1 docD = (rows1, 3, 1, 0) := by decide
theorem alive2 : insertL rows1 3 1 1 docD2 = (rows2, 5, 3, 0) := by decide
theorem alive3 : moveL rows2 5 3 1 0 = (rows3, 5, 0, 0) := by decide
theorem doc_small : SmallItems docD := ⟨by decide, fun k x hx => by
  match k, hx with
  | 0, hx => injection hx with hx; subst hx; exact ⟨by decide, by decide, by decide, fun k a h => by simp at h, by decide⟩
  | 1, hx => injection hx with hx; subst hx; exact ⟨by decide, by decide, by decide, fun k a h => by simp at h, by decide⟩
  | k + 2, hx => simp [docD] at hx⟩
theorem doc_small2 : SmallItems docD2 := ⟨by decide, fun k x hx => by
  match k, hx with
  | 0, hx => injection hx with hx; subst hx; exact ⟨by decide, by decide, by decide, fun k a h => by simp at h, by decide⟩
  | 1, hx => injection hx with hx; subst hx; exact ⟨by decide, by decide, by decide, fun k a h => by simp at h, by decide⟩
  | k + 2, hx => simp [docD2] at hx⟩
theorem two_items {M : Nat → Prop} {w : World} {b : Nat} (x1 x2 : ItemD) (h1 : x1.attrs = []) (h2 : x2.attrs = []) (h : w.heap[b]? = some (.cells #[.int .i64 x1.level, .int .i64 x1.kind, strV x1.name, strV x1.text, .slice none 0 0, .int .i64 x2.level, .int .i64 x2.kind, strV x2.name, strV x2.text, .slice none 0 0] 51 (0, 0))) (hb : b < w.heap.size) (hm : ¬ M b) :
    StandI M w (b + 1) (some ⟨b, 0, none⟩) [x1, x2] := fun wr ht _ => by
  have h' := (ht.block b hb hm).trans h
  refine ⟨_, rfl, Nat.lt_succ_self _, fun k x hx => ?_⟩
  rw [add_zero_block]
  match k, hx with
  | 0, hx =>
    injection hx with hx
    subst hx
    exact ⟨none, 0, fun h => absurd h (by rw [h1]; simp), by rw [h1]; exact Nat.le_refl _, cell_row h' 0 _ rfl, cell_row h' 1 _ rfl, cell_row h' 2 _ rfl, cell_row h' 3 _ rfl, by rw [h1]; exact cell_row h' 4 _ rfl⟩
  | 1, hx =>
    injection hx with hx
    subst hx
    exact ⟨none, 0, fun h => absurd h (by rw [h2]; simp), by rw [h2]; exact Nat.le_refl _, cell_row h' 5 _ rfl, cell_row h' 6 _ rfl, cell_row h' 7 _ rfl, cell_row h' 8 _ rfl, by rw [h2]; exact cell_row h' 9 _ rfl⟩
  | k + 2, hx => simp at hx
theorem ids_of {f : Fo} {L : List RowD} (h : L = f.flat 0) : f.ids = L.map (·.id) := by rw [h, Fo.flat_ids]
theorem cnt_of {f : Fo} {L : List RowD} (h : L = f.flat 0) : f.cnt = L.length := by rw [h, Fo.flat_len]

theorem doc_any (w : World) : Calls Try.prog 19 #[] w fun e w' => e = .returned (.slice (some ⟨w.heap.size, 0, none⟩) 2 2) ∧ Below w.heap.size w w' ∧ w.heap.size < w'.heap.size ∧
    w'.heap[w.heap.size]? = some (.cells #[.int .i64 0, .int .i64 1, strV [97], strV [], .slice none 0 0, .int .i64 1, .int .i64 2, strV [], strV [120], .slice none 0 0] 51 (0, 0)) := by
  go_enter Try.func19, Try.ntmps19
  go_wp2_with fail
  go_ret
  exact ⟨rfl, (Below.refl _ w).alloc (Nat.le_refl _) _, by simp, heap_alloc_new w _⟩

set_option maxRecDepth 100000 in
set_option maxHeartbeats 2000000 in
theorem alive_any (w : World) : Calls Try.prog 8 #[] w (Ret w (.bool true)) := by
  go_enter Try.func8, Try.ntmps8
  go_wp2_with fail
  refine (New_any w).mono ?_
  rintro e w1 ⟨rfl, hb1, y1, ht1⟩
  have HB1 := Lib.hid hb1
  have HT1 : Hid (TreeAt w1 (w.heap.size + 1) w.heap.size y1 (Fo.ent 0 .nil) (rootF .nil) 1 Fo.nil.cnt) := ht1
  have hz1 : Hid (w.heap.size + 1 < w1.heap.size) := ht1.lt (.inl rfl)
  have hlow1 : Hid (∀ b, Mine (w.heap.size + 1) w.heap.size y1 (Fo.ent 0 .nil) b → w.heap.size ≤ b ∧ b < w1.heap.size) := fun b hb => by
    refine ⟨?_, ht1.lt hb⟩
    rcases hb with rfl | rfl | ⟨id, e, he, _⟩
    · omega
    · omega
    · cases he
  clear hb1 ht1
  go_wp2_with fail
  refine (doc_any w1).mono ?_
  rintro e w2 ⟨rfl, hb2, hz2, hd2⟩
  have HT2 := Lib.hid (HT1.out.below hb2)
  have HB2 : Hid (Below w.heap.size w w2) := HB1.out.trans (hb2.mono HB1.out.size)
  have HZ2 := Lib.hid hz2
  have HST2 : Hid (StandI (Mine (w.heap.size + 1) w.heap.size y1 (Fo.ent 0 .nil)) w2 (w1.heap.size + 1) (some ⟨w1.heap.size, 0, none⟩) docD) := two_items ⟨0, 1, [97], [], []⟩ ⟨1, 2, [], [120], []⟩ rfl rfl hd2 hz2 (fun hm => by have := (hlow1.out _ hm).2; omega)
  clear hb2 hd2 hz2
  go_wp2_with fail
  refine (Load_F HT2.out InvF.new docD (some ⟨w1.heap.size, 0, none⟩) 2 (w1.heap.size + 1) HST2.out HZ2.out doc_small).mono ?_
  rw [show loadL (Fo.flat 0 .nil) 1 docD = (rows1, 3, 1, 0) from alive1]
  rintro e w3 ⟨rfl, f3, hf3, hi3, mb3, y3, ht3, hg3⟩
  have HF3 := Lib.hid hf3
  have HI3 := Lib.hid hi3
  have HT3 := Lib.hid ht3
  have HG3 := Lib.hid hg3
  have hlow3 : Hid (∀ b, Mine (w.heap.size + 1) mb3 y3 (f3.ent 0) b → w.heap.size ≤ b) := fun b hb => by
    rcases hg3.2 b hb with h | h
    · exact (hlow1.out b h).1
    · have := HB2.out.size; omega
  have HB3 : Hid (Below w.heap.size w w3) := HB2.out.trans (hg3.1.below (fun b hb => (hlow1.out b hb).1) HB2.out.size)
  clear hf3 hi3 ht3 hg3
  go_wp2_with fail
  obtain ⟨W4, hW4⟩ : ∃ W4, Hid (W4 = w3.alloc (.cells #[.int .i64 0, .int .i64 1, .string ⟨#[98]⟩, .string ⟨#[]⟩, .slice none 0 0, .int .i64 1, .int .i64 2, .string ⟨#[]⟩, .string ⟨#[121]⟩, .slice none 0 0] 51)) := ⟨_, rfl⟩
  rw [← hW4.out]
  have hb4 : Below w3.heap.size w3 W4 := by rw [hW4.out]; exact (Below.refl _ w3).alloc (Nat.le_refl _) _
  have hz4 : w3.heap.size < W4.heap.size := by rw [hW4.out]; simp
  have hd4 : W4.heap[w3.heap.size]? = some (.cells #[.int .i64 0, .int .i64 1, .string ⟨#[98]⟩, .string ⟨#[]⟩, .slice none 0 0, .int .i64 1, .int .i64 2, .string ⟨#[]⟩, .string ⟨#[121]⟩, .slice none 0 0] 51 (0, 0)) := by rw [hW4.out]; exact heap_alloc_new w3 _
  have HT4 := Lib.hid (HT3.out.below hb4)
  have HZ4 := Lib.hid hz4
  have HST4 : Hid (StandI (Mine (w.heap.size + 1) mb3 y3 (f3.ent 0)) W4 (w3.heap.size + 1) (some ⟨w3.heap.size, 0, none⟩) docD2) := two_items ⟨0, 1, [98], [], []⟩ ⟨1, 2, [], [121], []⟩ rfl rfl hd4 hz4 (fun hm => by have := HT3.out.lt hm; omega)
  have HB4 : Hid (Below w.heap.size w W4) := HB3.out.trans (hb4.mono HB3.out.size)
  clear hb4 hd4 hz4
  refine (Insert_F HT4.out HI3.out ⟨by decide, by decide⟩ 1 docD2 (some ⟨w3.heap.size, 0, none⟩) 2 (w3.heap.size + 1) HST4.out HZ4.out doc_small2).mono ?_
  rw [← HF3.out, show insertL rows1 3 1 1 docD2 = (rows2, 5, 3, 0) from alive2]
  rintro e w5 ⟨rfl, f5, hf5, hi5, mb5, y5, ht5, hg5⟩
  have HF5 := Lib.hid hf5
  have HI5 := Lib.hid hi5
  have HT5 := Lib.hid ht5
  have hlow5 : Hid (∀ b, Mine (w.heap.size + 1) mb5 y5 (f5.ent 0) b → w.heap.size ≤ b) := fun b hb => by
    rcases hg5.2 b hb with h | h
    · exact hlow3.out b h
    · have := HB4.out.size; omega
  have HB5 : Hid (Below w.heap.size w w5) := HB4.out.trans (hg5.1.below (fun b hb => hlow3.out b hb) HB4.out.size)
  clear hf5 hi5 ht5 hg5
  go_wp2_with fail
  refine (Order_F HT5.out HI5.out).mono ?_
  rintro e w6 ⟨v6, rfl, hr6, hb6, hf6⟩
  have hids5 : f5.ids = [1, 2, 3, 4] := by rw [ids_of HF5.out]; rfl
  rw [hids5] at hr6
  have HR6 := Lib.hid hr6
  have HT6 := Lib.hid (HT5.out.below hb6)
  have HB6 : Hid (Below w.heap.size w w6) := HB5.out.trans (hb6.mono HB5.out.size)
  clear hr6 hb6 hf6 hids5
  go_wp2_with fail
  obtain ⟨W7, hW7⟩ : ∃ W7, Hid (W7 = w6.alloc (.cells #[.int .i64 1, .int .i64 2, .int .i64 3, .int .i64 4] 3)) := ⟨_, rfl⟩
  rw [← hW7.out]
  have hb7 : Below w6.heap.size w6 W7 := by rw [hW7.out]; exact (Below.refl _ w6).alloc (Nat.le_refl _) _
  have hr7 : intRow W7 (.slice (some ⟨w6.heap.size, 0, none⟩) 4 4) [1, 2, 3, 4] := by
    rw [hW7.out]
    exact row_mk (heap_alloc_new w6 _) (Nat.le_refl _) (by decide) rfl rfl
  have hr7' : intRow W7 v6 [1, 2, 3, 4] := row_block HR6.out fun b hb => hb7.block b (row_lt HR6.out hb)
  have HT7 := Lib.hid (HT6.out.below hb7)
  have HB7 : Hid (Below w.heap.size w W7) := HB6.out.trans (hb7.mono HB6.out.size)
  have HR7 := Lib.hid hr7
  have HR7' := Lib.hid hr7'
  clear hb7 hr7 hr7'
  refine (SameIds_any _ _ _ _ _ HR7'.out HR7.out true rfl).mono ?_
  rintro e w8 ⟨rfl, hb8⟩
  have HT8 := Lib.hid (HT7.out.below hb8)
  have HB8 : Hid (Below w.heap.size w w8) := HB7.out.trans (hb8.mono HB7.out.size)
  clear hb8
  go_wp2_with fail
  refine (Move_F HT8.out HI5.out ⟨by decide, by decide⟩ ⟨by decide, by decide⟩ 0).mono ?_
  rw [← HF5.out, show moveL rows2 5 3 1 0 = (rows3, 5, 0, 0) from alive3]
  rintro e w9 ⟨_, rfl, f9, hf9, hi9, mb9, y9, ht9, hg9⟩
  have HF9 := Lib.hid hf9
  have HI9 := Lib.hid hi9
  have HT9 := Lib.hid ht9
  have HB9 : Hid (Below w.heap.size w w9) := HB8.out.trans (hg9.1.below (fun b hb => hlow5.out b hb) HB8.out.size)
  clear hf9 hi9 ht9 hg9
  go_wp2_with fail
  refine (Order_F HT9.out HI9.out).mono ?_
  rintro e wa ⟨va, rfl, hra, hba, hfa⟩
  have hids9 : f9.ids = [1, 3, 4, 2] := by rw [ids_of HF9.out]; rfl
  rw [hids9] at hra
  have HRa := Lib.hid hra
  have HTa := Lib.hid (HT9.out.below hba)
  have HBa : Hid (Below w.heap.size w wa) := HB9.out.trans (hba.mono HB9.out.size)
  clear hra hba hfa hids9
  go_wp2_with fail
  obtain ⟨Wb, hWb⟩ : ∃ Wb, Hid (Wb = wa.alloc (.cells #[.int .i64 1, .int .i64 3, .int .i64 4, .int .i64 2] 3)) := ⟨_, rfl⟩
  rw [← hWb.out]
  have hbb : Below wa.heap.size wa Wb := by rw [hWb.out]; exact (Below.refl _ wa).alloc (Nat.le_refl _) _
  have hrb : intRow Wb (.slice (some ⟨wa.heap.size, 0, none⟩) 4 4) [1, 3, 4, 2] := by
    rw [hWb.out]
    exact row_mk (heap_alloc_new wa _) (Nat.le_refl _) (by decide) rfl rfl
  have hrb' : intRow Wb va [1, 3, 4, 2] := row_block HRa.out fun b hb => hbb.block b (row_lt HRa.out hb)
  have HTb := Lib.hid (HTa.out.below hbb)
  have HBb : Hid (Below w.heap.size w Wb) := HBa.out.trans (hbb.mono HBa.out.size)
  have HRb := Lib.hid hrb
  have HRb' := Lib.hid hrb'
  clear hbb hrb hrb'
  refine (SameIds_any _ _ _ _ _ HRb'.out HRb.out true rfl).mono ?_
  rintro e wc ⟨rfl, hbc⟩
  have htc := HTb.out.below hbc
  have hcn : f9.cnt = 4 := by rw [cnt_of HF9.out]; rfl
  rw [hcn] at htc
  have HTc := Lib.hid htc
  have HBc : Hid (Below w.heap.size w wc) := HBb.out.trans (hbc.mono HBb.out.size)
  clear hbc htc hcn
  go_wp2_with fail
  refine (Len_any HTc.out).mono ?_
  rintro e w' ⟨rfl, rfl⟩
  go_wp2_with fail
  go_ret
  exact ⟨rfl, HBc.out⟩
end Go.Proofs.Ytmkgajdgnmolkaa

/-
  Trees: whether there are few calls.
-/
namespace Go.Proofs.Ytmkgajdgnmolkaa
open Go.RowKit Go.Shelf

def manyL (l : List OpD) : Nat := (l.map (·.l.length)).sum
def fewL (l : List OpD) : Bool := decide (l.length ≤ 80) && decide (manyL l ≤ 2500)
theorem many_snoc {l : List OpD} {k : Nat} {o : OpD} (h : l[k]? = some o) : manyL (l.take (k + 1)) = manyL (l.take k) + o.l.length := by
  unfold manyL
  rw [List.take_add_one, h]
  simp
theorem many_le (l : List OpD) (h : ∀ o ∈ l, o.l.length ≤ 1048576) : manyL l ≤ 1048576 * l.length := by
  unfold manyL
  induction l with
  | nil => simp
  | cons o l ih =>
    have h1 := h o (by simp)
    have h2 := ih fun z hz => h z (by simp [hz])
    simp only [List.map_cons, List.sum_cons, List.length_cons]
    omega
theorem many_mem {l : List OpD} {o : OpD} (h : o ∈ l) : o.l.length ≤ manyL l := by
  unfold manyL
  induction l with
  | nil => cases h
  | cons a l ih =>
    simp only [List.map_cons, List.sum_cons]
    rcases List.mem_cons.1 h with rfl | h
    · omega
    · have := ih h; omega
set_option maxRecDepth 100000 in
set_option maxHeartbeats 1000000 in
theorem few_any (l : List OpD) (A : Option Addr) (c B : Nat) (w : World) (hl : OpsAt w B A l) (hB : B ≤ w.heap.size) (hs : SmallOps l) (r : Bool) (hr : Hid (fewL l = r)) :
    Calls Try.prog 7 #[.slice A l.length c] w (Ret w (.bool r)) := by
  obtain ⟨hs1, hs2⟩ := hs
  have HL := Lib.hid hl
  have HS := Lib.hid hs2
  clear hl hs2
  have hbd : ∀ k, k ≤ l.length → manyL (l.take k) ≤ 1099511627776 := fun k hk => by
    have := many_le (l.take k) (fun o ho => (HS.out o (List.mem_of_mem_take ho)).2)
    rw [List.length_take, Nat.min_eq_left hk] at this
    omega
  have HBD := Lib.hid hbd
  clear hbd
  go_enter Try.func7, Try.ntmps7
  go_wp2_with fail
  go_loopw [3, 8] (fun n i wr => ∃ (k m : Nat), k ≤ l.length ∧ i = .int .i64 k ∧ n = .int .i64 (m : Int) ∧ Hid (manyL (l.take k) = m) ∧ Below w.heap.size w wr) (fun _ i _ => l.length - (intOf i).toNat)
  case atStart => exact ⟨0, 0, Nat.zero_le _, rfl, rfl, rfl, Below.refl _ _⟩
  case round =>
    obtain ⟨k, m, hk, rfl, rfl, hm, hbel⟩ := hrel
    have hzr := hbel.size
    have hm1 : (m : Int) ≤ 1099511627776 := by have := HBD.out k hk; rw [hm.out] at this; omega
    have hm0 : (0 : Int) ≤ (m : Int) := by omega
    by_cases hlt : k < l.length
    · obtain ⟨o, ho⟩ : ∃ o, Hid (l[k]? = some o) := ⟨l[k], List.getElem?_eq_getElem _⟩
      have hAr := HL.out.below (hbel.mono hB)
      obtain ⟨ad, hAd, hadB, hcells⟩ := hAr (by omega)
      subst hAd
      obtain ⟨A', c', hit, hcap, k0, k1, k2, k3, k4, k5, k6⟩ := hcells k o ho.out
      have hol : (o.l.length : Int) ≤ 1048576 := by have := (HS.out o (List.mem_of_getElem? ho.out)).2; omega
      have hol0 : (0 : Int) ≤ (o.l.length : Int) := by omega
      unfold strV at k4 k5
      have hlt' : (k : Int) < l.length := by omega
      have hsn := many_snoc ho.out
      rw [hm.out] at hsn
      have HSN := Lib.hid hsn
      clear hAr hcells hit hsn hcap
      go_wp2_with fail
      go_roundw
      case rel => exact ⟨k + 1, m + o.l.length, by omega, by go_num, by go_num, HSN.out, hbel.alloc hzr _⟩
      case measure => simp [intOf]; omega
    · have hlt' : ¬ (k : Int) < l.length := by omega
      have hkl : k = l.length := by omega
      have hmm : Hid (manyL l = m) := by
        show _ = _
        rw [← hm.out, List.take_of_length_le (by omega)]
      have hl0 : (0 : Int) ≤ (l.length : Int) := by omega
      have hl1 : (l.length : Int) ≤ 1048576 := by omega
      clear hm
      by_cases h80 : l.length ≤ 80
      · have h1 : (l.length : Int) ≤ 80 := by omega
        have h1' : decide ((l.length : Int) ≤ 80) = true := decide_eq_true h1
        have h1n : decide (l.length ≤ 80) = true := decide_eq_true h80
        by_cases h25 : m ≤ 2500
        · have h2 : (m : Int) ≤ 2500 := by omega
          have hr' : Hid (r = true) := by show _ = _; rw [← hr.out]; unfold fewL; rw [hmm.out]; simp [h80, h25]
          go_wp2_with fail
          go_ret
          exact ⟨by rw [hr'.out]; rfl, hbel⟩
        · have h2 : decide ((m : Int) ≤ 2500) = false := decide_eq_false (by omega)
          have hr' : Hid (r = false) := by show _ = _; rw [← hr.out]; unfold fewL; rw [hmm.out]; simp [h25]
          go_wp2_with fail
          go_ret
          exact ⟨by rw [hr'.out]; rfl, hbel⟩
      · have h1' : decide ((l.length : Int) ≤ 80) = false := decide_eq_false (by omega)
        have h1n : decide (l.length ≤ 80) = false := decide_eq_false h80
        have hr' : Hid (r = false) := by show _ = _; rw [← hr.out]; unfold fewL; simp [h80]
        go_wp2_with fail
        go_ret
        exact ⟨by rw [hr'.out]; rfl, hbel⟩
end Go.Proofs.Ytmkgajdgnmolkaa

/-
  Trees: one that a law has at hand.
-/
namespace Go.Proofs.Ytmkgajdgnmolkaa
open Go.RowKit Go.Shelf

/-- A tree whose blocks are of M. -/
def TreeM (M : Nat → Prop) (t : Nat) (f : Fo) (next : Int) (w : World) : Prop := ∃ mb y, TreeAt w t mb y (f.ent 0) (rootF f) next f.cnt ∧ InvF f next ∧ (∀ b, Mine t mb y (f.ent 0) b → M b) ∧ ∀ b, M b → b < w.heap.size
section
variable {M : Nat → Prop} {t : Nat} {f : Fo} {next : Int} {w w' : World}
theorem TreeM.below (h : TreeM M t f next w) (hb : Below w.heap.size w w') : TreeM M t f next w' := by
  obtain ⟨mb, y, h1, h2, h3, h4⟩ := h
  exact ⟨mb, y, h1.below hb, h2, h3, fun b hm => Nat.lt_of_lt_of_le (h4 b hm) hb.size⟩
theorem TreeM.turn {M' : Nat → Prop} (h : TreeM M t f next w) (ht : Turn M' w w') (hd : ∀ b, M b → ¬ M' b) : TreeM M t f next w' := by
  obtain ⟨mb, y, h1, h2, h3, h4⟩ := h
  exact ⟨mb, y, h1.turn ht fun b hm => hd b (h3 b hm), h2, h3, fun b hm => Nat.lt_of_lt_of_le (h4 b hm) ht.size⟩
theorem TreeM.inv (h : TreeM M t f next w) : InvF f next := by obtain ⟨_, _, _, h, _⟩ := h; exact h
theorem TreeM.lt (h : TreeM M t f next w) {b : Nat} (hb : M b) : b < w.heap.size := by obtain ⟨_, _, _, _, _, h⟩ := h; exact h b hb
theorem New_in (w : World) : Calls Try.prog 6 #[] w fun e w' => e = .returned (.pointer (some ⟨w.heap.size + 1, 0, none⟩)) ∧ Below w.heap.size w w' ∧ TreeM (fun b => b = w.heap.size + 1 ∨ b = w.heap.size) (w.heap.size + 1) .nil 1 w' := by
  refine (New_any w).mono ?_
  rintro e w' ⟨rfl, hb, y, ht⟩
  refine ⟨rfl, hb, _, y, ht, InvF.new, fun b hm => ?_, fun b hm => ?_⟩
  · rcases hm with rfl | rfl | ⟨_, _, h, _⟩
    · exact .inl rfl
    · exact .inr rfl
    · cases h
  · rcases hm with rfl | rfl
    · exact ht.lt (.inl rfl)
    · exact ht.lt (.inr (.inl rfl))
theorem Next_in (h : TreeM M t f next w) : Calls Try.prog 9 #[.pointer (some ⟨t, 0, none⟩)] w fun e w' => e = .returned (.int .i64 next) ∧ w = w' := by
  obtain ⟨_, _, h, _⟩ := h
  exact Next_g h
theorem Len_in (h : TreeM M t f next w) : Calls Try.prog 15 #[.pointer (some ⟨t, 0, none⟩)] w fun e w' => e = .returned (.int .i64 (f.cnt : Int)) ∧ w = w' := by
  obtain ⟨_, _, h, _⟩ := h
  exact Len_any h
theorem Root_in (h : TreeM M t f next w) : Calls Try.prog 13 #[.pointer (some ⟨t, 0, none⟩)] w fun e w' => e = .returned (.int .i64 (rootF f)) ∧ w = w' := by
  obtain ⟨_, _, h, _⟩ := h
  exact Root_any h
theorem Order_in (h : TreeM M t f next w) : Calls Try.prog 11 #[.pointer (some ⟨t, 0, none⟩)] w fun e w' => ∃ v, e = .returned v ∧ intRow w' v f.ids ∧ Below w.heap.size w w' ∧ (∀ b, v.ownBlock = some b → w.heap.size ≤ b) := by
  obtain ⟨_, _, h, hi, _⟩ := h
  exact Order_F h hi
theorem Items_in (h : TreeM M t f next w) {id : Int} (hw : wfI id) : Calls Try.prog 12 #[.pointer (some ⟨t, 0, none⟩), .int .i64 id] w fun e w' => ∃ A c S, e = .returned (.slice A S.length c) ∧ S.map (·.1) = itemsAt (f.flat 0) id ∧ ItemsOwn w' w.heap.size A c S ∧
      (∀ s ∈ S, AttrsOwn w' w.heap.size s.2.1 s.2.2 s.1.attrs) ∧ Below w.heap.size w w' := by
  obtain ⟨_, _, h, hi, _⟩ := h
  exact Items_F h hi hw
/-- What a call leaves of a tree. -/
def DoM (M : Nat → Prop) (t : Nat) (w : World) (a : Ans) (w' : World) : Prop := ∃ (M' : Nat → Prop) (f' : Fo), a.1 = f'.flat 0 ∧ TreeM M' t f' a.2.1 w' ∧ Grows M M' w w'
/-- What a call of the laws leaves. -/
def DoIn (M : Nat → Prop) (t : Nat) (w : World) (a : Ans) (er : Ending) (w' : World) : Prop := er = .returned (.tuple #[.int .i64 a.2.2.1, .int .i64 a.2.2.2]) ∧ DoM M t w a w'
theorem DoP.toM {mb : Nat} {y : Lay} {a : Ans} (h : DoP t mb y f w a w') (hm : ∀ b, Mine t mb y (f.ent 0) b → M b) : DoM M t w a w' := by
  obtain ⟨f', h1, h2, mb', y', h3, h4⟩ := h
  refine ⟨Mine t mb' y' (f'.ent 0), f', h1, ⟨mb', y', h3, h2, fun _ h => h, fun b hb => h3.lt hb⟩, h4.1.mono hm, fun b hb => ?_⟩
  rcases h4.2 b hb with h | h
  · exact .inl (hm b h)
  · exact .inr h
theorem does_in (h : TreeM M t f next w) (o : OpD) (A : Option Addr) (c N : Nat) (hl : ItemsAt w N A o.l) (hM : ∀ b, M b → N ≤ b) (hN : N ≤ w.heap.size) (hs : SmallOp o) :
    Calls Try.prog 10 #[.pointer (some ⟨t, 0, none⟩), .agg (opVal o A c)] w (DoIn M t w (doL (f.flat 0) next o)) := by
  obtain ⟨mb, y, h, hi, hm, _⟩ := h
  refine (does_any h hi o A c N (StandI.of hl (fun b hb => hM b (hm b hb)) hN) hN hs).mono ?_
  rintro er w' ⟨rfl, hp⟩
  exact ⟨rfl, hp.toM hm⟩
/-- blocks that are of N or behind it stay so -/
theorem Grows.low {M M' : Nat → Prop} {N : Nat} {w w' : World} (h : Grows M M' w w') (hM : ∀ b, M b → N ≤ b) (hN : N ≤ w.heap.size) : ∀ b, M' b → N ≤ b := fun b hb => by
  rcases h.2 b hb with h | h
  · exact hM b h
  · omega
end
end Go.Proofs.Ytmkgajdgnmolkaa

/-
  The law GroveIds: ids are given in order.
-/
namespace Go.Proofs.Ytmkgajdgnmolkaa
open Go.RowKit Go.Shelf

set_option maxRecDepth 100000 in
set_option maxHeartbeats 4000000 in
theorem walk_GroveIds (l : List OpD) (A : Option Addr) (c : Nat) (w : World) (hI : OpsAt w w.heap.size A l) (hS : SmallOps l) :
    Calls Try.prog 3 #[.slice A l.length c] w (Ret w (.bool true)) := by
  have HI := Lib.hid hI
  have HS := Lib.hid hS
  have hln : (l.length : Int) ≤ 1048576 := by have := hS.1; omega
  clear hI hS
  go_enter Try.func3, Try.ntmps3
  go_wp2_with fail
  refine (New_in w).mono ?_
  rintro e w1 ⟨rfl, hb1, ht1⟩
  have HB1 := Lib.hid hb1
  have HT1 := Lib.hid ht1
  have HI1 := Lib.hid (HI.out.below hb1)
  clear hb1 ht1
  go_wp2_with fail
  cases hfew : fewL l with
  | false =>
    refine (few_any l A c w.heap.size w1 HI1.out HB1.out.size HS.out false hfew).mono ?_
    rintro e w2 ⟨rfl, hb2⟩
    have HB2 : Hid (Below w.heap.size w w2) := HB1.out.trans (hb2.mono HB1.out.size)
    clear hb2 hfew
    go_wp2_with fail
    refine (alive_any w2).mono ?_
    rintro e w3 ⟨rfl, hb3⟩
    have HB3 : Hid (Below w.heap.size w w3) := HB2.out.trans (hb3.mono HB2.out.size)
    clear hb3
    go_wp2_with fail
    go_ret
    exact ⟨rfl, HB3.out⟩
  | true =>
    refine (few_any l A c w.heap.size w1 HI1.out HB1.out.size HS.out true hfew).mono ?_
    rintro e w2 ⟨rfl, hb2⟩
    have HB2 : Hid (Below w.heap.size w w2) := HB1.out.trans (hb2.mono HB1.out.size)
    have HT2 := Lib.hid (HT1.out.below hb2)
    clear hb2 hfew
    go_wp2_with fail
    go_loopw [27] (fun i wr => ∃ (k : Nat) (f : Fo) (next : Int) (M : Nat → Prop), k ≤ l.length ∧ i = .int .i64 (k : Int) ∧ Hid (TreeM M (w.heap.size + 1) f next wr) ∧ Hid (∀ b, M b → w.heap.size ≤ b) ∧ Hid (Below w.heap.size w wr)) (fun i _ => l.length - (intOf i).toNat)
    case atStart => exact ⟨0, .nil, 1, _, Nat.zero_le _, rfl, HT2.out, fun b hb => by rcases hb with rfl | rfl <;> omega, HB2.out⟩
    case round =>
      obtain ⟨k, f, next, M, hk, rfl, ht, hlow, hbel⟩ := hrel
      clear HB2 HT2 HB1 HT1 HI1
      by_cases hlt : k < l.length
      · obtain ⟨o, ho⟩ : ∃ o, Hid (l[k]? = some o) := ⟨l[k], List.getElem?_eq_getElem _⟩
        obtain ⟨hso, hol⟩ := HS.out.2 o (List.mem_of_getElem? ho.out)
        have HSO := Lib.hid hso
        have hol1 : (o.l.length : Int) ≤ 1048576 := by omega
        have hol0 : (0 : Int) ≤ (o.l.length : Int) := by omega
        obtain ⟨n1, n2⟩ := ht.out.inv.nx
        obtain ⟨ad, hAd, hadB, hcells⟩ := (HI.out.below hbel.out) (by omega)
        subst hAd
        obtain ⟨A', c', hit, hcap, k0, k1, k2, k3, k4, k5, k6⟩ := hcells k o ho.out
        have hlt' : (k : Int) < l.length := by omega
        obtain ⟨W1, hW1⟩ : ∃ W1, Hid (W1 = wr.alloc (.cells (opVal o A' c') 29)) := ⟨_, rfl⟩
        have hb1 : Below wr.heap.size wr W1 := by rw [hW1.out]; exact (Below.refl _ wr).alloc (Nat.le_refl _) _
        have hX1 : W1.heap[wr.heap.size]? = some (.cells (opVal o A' c') 29 (0, 0)) := by rw [hW1.out]; exact heap_alloc_new wr _
        have HT1 := Lib.hid (ht.out.below hb1)
        have HB1 : Hid (Below w.heap.size w W1) := hbel.out.trans (hb1.mono hbel.out.size)
        have HIT := Lib.hid (hit.below (hb1.mono hbel.out.size))
        have HX1 := Lib.hid hX1
        have hzb : Hid (wr.heap.size < W1.heap.size) := by show _ < _; rw [hW1.out]; simp
        have hzw : Hid (w.heap.size ≤ wr.heap.size) := hbel.out.size
        have hW1' := hW1.out
        unfold opVal strV at hW1'
        replace hW1 := Lib.hid hW1'
        unfold strV at k4 k5
        obtain ⟨ans, hans⟩ : ∃ a, Hid (doL (f.flat 0) next o = a) := ⟨_, rfl⟩
        have hids := do_ids (f.flat 0) next o
        rw [hans.out] at hids
        have HIDS := Lib.hid hids
        clear hcells hit hb1 hX1 hso hol hcap hids hW1'
        go_wp2_with fail
        rw [← hW1.out]
        refine (Next_in HT1.out).mono ?_
        rintro e w' ⟨rfl, rfl⟩
        have hx1 := HX1.out
        unfold opVal strV at hx1
        have d0 := cell_row hx1 0 _ rfl
        have d1 := cell_row hx1 1 _ rfl
        have d2 := cell_row hx1 2 _ rfl
        have d3 := cell_row hx1 3 _ rfl
        have d4 := cell_row hx1 4 _ rfl
        have d5 := cell_row hx1 5 _ rfl
        have d6 := cell_row hx1 6 _ rfl
        clear hx1 k0 k1 k2 k3 k4 k5 k6
        go_wp2_with fail
        refine (does_in HT1.out o A' c' w.heap.size HIT.out hlow.out HB1.out.size HSO.out).mono ?_
        obtain ⟨L2, NX, ID, E⟩ := ans
        rw [hans.out]
        rintro e2 w2 ⟨rfl, M2, f2, hf2, ht2, hg2⟩
        have HT2 := Lib.hid ht2
        have hbx : ¬ M wr.heap.size := fun hm => by have := ht.out.lt hm; omega
        have HX2 : Hid (w2.heap[wr.heap.size]? = some (.cells (opVal o A' c') 29 (0, 0))) := (hg2.1.block _ hzb.out hbx).trans HX1.out
        have HLOW2 := Lib.hid (hg2.low hlow.out HB1.out.size)
        have HB2 : Hid (Below w.heap.size w w2) := HB1.out.trans (hg2.1.below hlow.out HB1.out.size)
        clear hf2 ht2 hg2 hbx d1 d2 d3 d4 d5 d6 d0
        have hx2 := HX2.out
        unfold opVal strV at hx2
        have d0 := cell_row hx2 0 _ rfl
        have d6 := cell_row hx2 6 _ rfl
        clear hx2
        simp only at HT2
        by_cases hE : E = 0
        · have e0 : (E == 0) = true := by simpa using hE
          by_cases hK : o.kind = 0 ∨ o.kind = 1
          · have hNX : Hid (NX = next + (o.l.length : Int)) := by
              have := HIDS.out.1
              rw [if_pos ⟨hE, hK⟩] at this
              exact this
            have hID : Hid (ID = next) := HIDS.out.2.1 hE hK
            have hNB : next + (o.l.length : Int) ≤ 2147483647 := by have := HT2.out.inv.nx.2; rw [hNX.out] at this; exact this
            rw [hNX.out] at HT2
            rw [hID.out]
            by_cases hK0 : o.kind = 0
            · have k0 : (o.kind == 0) = true := by simpa using hK0
              clear hE hK hK0
              go_wp2_with fail
              refine (Next_in HT2.out).mono ?_
              rintro e3 w' ⟨rfl, rfl⟩
              go_wp2_with fail
              refine (Order_in HT2.out).mono ?_
              rintro e4 w4 ⟨v4, rfl, hr4, hb4, hf4⟩
              obtain ⟨A4, c4, rfl, _, hm4, hn4, hs4⟩ := row_shape hr4
              have HR4 := Lib.hid hr4
              have HB4 : Hid (Below w.heap.size w w4) := HB2.out.trans (hb4.mono HB2.out.size)
              have HT4 := Lib.hid (HT2.out.below hb4)
              have HS4 := Lib.hid hs4
              have HN4 := Lib.hid hn4
              obtain ⟨m4, hm4⟩ : ∃ m, Hid (f2.ids.length = m) := ⟨_, rfl⟩
              have hml : (m4 : Int) ≤ 1000 := by have := HT4.out.inv.cnt; rw [← Fo.ids_len, hm4.out] at this; omega
              rw [hm4.out]
              clear hr4 hb4 hf4 hs4 hn4
              go_wp2_with fail
              obtain ⟨w0, hw0⟩ : ∃ w0 : World, w0 = wr := ⟨_, rfl⟩
              subst hw0
              go_loopw [66] (fun i wr => ∃ j : Nat, i = .int .i64 (j : Int) ∧ j ≤ m4 ∧ Hid (TreeM M2 (w.heap.size + 1) f2 (next + (o.l.length : Int)) wr) ∧ Hid (Below w4.heap.size w4 wr)) (fun i _ => m4 - (intOf i).toNat)
              case atStart => exact ⟨0, rfl, Nat.zero_le _, HT4.out, Below.refl _ _⟩
              case round =>
                obtain ⟨j, rfl, hj, htj, hbj⟩ := hrel
                by_cases hjm : j < m4
                · obtain ⟨x, hx⟩ : ∃ x, Hid (f2.ids[j]? = some x) := ⟨f2.ids[j]'(by have := hm4.out; omega), List.getElem?_eq_getElem _⟩
                  have hrj : intRow wr (.slice A4 f2.ids.length c4) f2.ids := row_block HR4.out fun b hb => hbj.out.block b (row_lt HR4.out hb)
                  cases A4 with
                  | none => exfalso; have := (HN4.out rfl).1; have := hm4.out; omega
                  | some a4 =>
                    obtain ⟨b4, rfl, _⟩ := HS4.out a4 rfl
                    have e4 := own_cell hrj j (.int .i64 x) (by rw [List.getElem?_map, hx.out]; rfl)
                    obtain ⟨x1, x2⟩ := htj.out.inv.rng x (List.mem_of_getElem? hx.out)
                    have j0 : (0 : Int) ≤ (j : Int) := by omega
                    have j1 : (j : Int) < (m4 : Int) := by omega
                    have x3 : decide ((next + (o.l.length : Int)) ≤ x) = false := decide_eq_false (by omega)
                    have x4 : decide (x < 1) = false := decide_eq_false (by omega)
                    clear hrj
                    go_wp2_with fail
                    refine (Next_in htj.out).mono ?_
                    rintro e5 w' ⟨rfl, rfl⟩
                    go_wp2_with fail
                    go_roundw
                    case rel => exact ⟨j + 1, by go_num, by omega, htj.out, hbj.out⟩
                    case measure => simp [intOf]; omega
                · have j1 : ¬ (j : Int) < (m4 : Int) := by omega
                  go_wp2_with fail
                  go_roundw
                  case rel => exact ⟨k + 1, f2, (next + (o.l.length : Int)), M2, by omega, by go_num, htj.out, HLOW2.out, HB4.out.trans (hbj.out.mono HB4.out.size)⟩
                  case measure => simp [intOf]; omega
            · have k0 : (o.kind == 0) = false := by simpa using hK0
              have k1 : (o.kind == 1) = true := by simp; omega
              clear hE hK hK0
              go_wp2_with fail
              refine (Next_in HT2.out).mono ?_
              rintro e3 w' ⟨rfl, rfl⟩
              go_wp2_with fail
              refine (Order_in HT2.out).mono ?_
              rintro e4 w4 ⟨v4, rfl, hr4, hb4, hf4⟩
              obtain ⟨A4, c4, rfl, _, hm4, hn4, hs4⟩ := row_shape hr4
              have HR4 := Lib.hid hr4
              have HB4 : Hid (Below w.heap.size w w4) := HB2.out.trans (hb4.mono HB2.out.size)
              have HT4 := Lib.hid (HT2.out.below hb4)
              have HS4 := Lib.hid hs4
              have HN4 := Lib.hid hn4
              obtain ⟨m4, hm4⟩ : ∃ m, Hid (f2.ids.length = m) := ⟨_, rfl⟩
              have hml : (m4 : Int) ≤ 1000 := by have := HT4.out.inv.cnt; rw [← Fo.ids_len, hm4.out] at this; omega
              rw [hm4.out]
              clear hr4 hb4 hf4 hs4 hn4
              go_wp2_with fail
              obtain ⟨w0, hw0⟩ : ∃ w0 : World, w0 = wr := ⟨_, rfl⟩
              subst hw0
              go_loopw [66] (fun i wr => ∃ j : Nat, i = .int .i64 (j : Int) ∧ j ≤ m4 ∧ Hid (TreeM M2 (w.heap.size + 1) f2 (next + (o.l.length : Int)) wr) ∧ Hid (Below w4.heap.size w4 wr)) (fun i _ => m4 - (intOf i).toNat)
              case atStart => exact ⟨0, rfl, Nat.zero_le _, HT4.out, Below.refl _ _⟩
              case round =>
                obtain ⟨j, rfl, hj, htj, hbj⟩ := hrel
                by_cases hjm : j < m4
                · obtain ⟨x, hx⟩ : ∃ x, Hid (f2.ids[j]? = some x) := ⟨f2.ids[j]'(by have := hm4.out; omega), List.getElem?_eq_getElem _⟩
                  have hrj : intRow wr (.slice A4 f2.ids.length c4) f2.ids := row_block HR4.out fun b hb => hbj.out.block b (row_lt HR4.out hb)
                  cases A4 with
                  | none => exfalso; have := (HN4.out rfl).1; have := hm4.out; omega
                  | some a4 =>
                    obtain ⟨b4, rfl, _⟩ := HS4.out a4 rfl
                    have e4 := own_cell hrj j (.int .i64 x) (by rw [List.getElem?_map, hx.out]; rfl)
                    obtain ⟨x1, x2⟩ := htj.out.inv.rng x (List.mem_of_getElem? hx.out)
                    have j0 : (0 : Int) ≤ (j : Int) := by omega
                    have j1 : (j : Int) < (m4 : Int) := by omega
                    have x3 : decide ((next + (o.l.length : Int)) ≤ x) = false := decide_eq_false (by omega)
                    have x4 : decide (x < 1) = false := decide_eq_false (by omega)
                    clear hrj
                    go_wp2_with fail
                    refine (Next_in htj.out).mono ?_
                    rintro e5 w' ⟨rfl, rfl⟩
                    go_wp2_with fail
                    go_roundw
                    case rel => exact ⟨j + 1, by go_num, by omega, htj.out, hbj.out⟩
                    case measure => simp [intOf]; omega
                · have j1 : ¬ (j : Int) < (m4 : Int) := by omega
                  go_wp2_with fail
                  go_roundw
                  case rel => exact ⟨k + 1, f2, (next + (o.l.length : Int)), M2, by omega, by go_num, htj.out, HLOW2.out, HB4.out.trans (hbj.out.mono HB4.out.size)⟩
                  case measure => simp [intOf]; omega
          · have hNX : Hid (NX = next) := by
              have := HIDS.out.1
              rw [if_neg (fun h => hK h.2)] at this
              have h' : NX = next + 0 := this
              show _ = _
              omega
            rw [hNX.out] at HT2
            have k0 : (o.kind == 0) = false := by simp; omega
            have k1 : (o.kind == 1) = false := by simp; omega
            clear hE hK
            go_wp2_with fail
            refine (Next_in HT2.out).mono ?_
            rintro e3 w' ⟨rfl, rfl⟩
            go_wp2_with fail
            refine (Order_in HT2.out).mono ?_
            rintro e4 w4 ⟨v4, rfl, hr4, hb4, hf4⟩
            obtain ⟨A4, c4, rfl, _, hm4, hn4, hs4⟩ := row_shape hr4
            have HR4 := Lib.hid hr4
            have HB4 : Hid (Below w.heap.size w w4) := HB2.out.trans (hb4.mono HB2.out.size)
            have HT4 := Lib.hid (HT2.out.below hb4)
            have HS4 := Lib.hid hs4
            have HN4 := Lib.hid hn4
            obtain ⟨m4, hm4⟩ : ∃ m, Hid (f2.ids.length = m) := ⟨_, rfl⟩
            have hml : (m4 : Int) ≤ 1000 := by have := HT4.out.inv.cnt; rw [← Fo.ids_len, hm4.out] at this; omega
            rw [hm4.out]
            clear hr4 hb4 hf4 hs4 hn4
            go_wp2_with fail
            obtain ⟨w0, hw0⟩ : ∃ w0 : World, w0 = wr := ⟨_, rfl⟩
            subst hw0
            go_loopw [66] (fun i wr => ∃ j : Nat, i = .int .i64 (j : Int) ∧ j ≤ m4 ∧ Hid (TreeM M2 (w.heap.size + 1) f2 next wr) ∧ Hid (Below w4.heap.size w4 wr)) (fun i _ => m4 - (intOf i).toNat)
            case atStart => exact ⟨0, rfl, Nat.zero_le _, HT4.out, Below.refl _ _⟩
            case round =>
              obtain ⟨j, rfl, hj, htj, hbj⟩ := hrel
              by_cases hjm : j < m4
              · obtain ⟨x, hx⟩ : ∃ x, Hid (f2.ids[j]? = some x) := ⟨f2.ids[j]'(by have := hm4.out; omega), List.getElem?_eq_getElem _⟩
                have hrj : intRow wr (.slice A4 f2.ids.length c4) f2.ids := row_block HR4.out fun b hb => hbj.out.block b (row_lt HR4.out hb)
                cases A4 with
                | none => exfalso; have := (HN4.out rfl).1; have := hm4.out; omega
                | some a4 =>
                  obtain ⟨b4, rfl, _⟩ := HS4.out a4 rfl
                  have e4 := own_cell hrj j (.int .i64 x) (by rw [List.getElem?_map, hx.out]; rfl)
                  obtain ⟨x1, x2⟩ := htj.out.inv.rng x (List.mem_of_getElem? hx.out)
                  have j0 : (0 : Int) ≤ (j : Int) := by omega
                  have j1 : (j : Int) < (m4 : Int) := by omega
                  have x3 : decide (next ≤ x) = false := decide_eq_false (by omega)
                  have x4 : decide (x < 1) = false := decide_eq_false (by omega)
                  clear hrj
                  go_wp2_with fail
                  refine (Next_in htj.out).mono ?_
                  rintro e5 w' ⟨rfl, rfl⟩
                  go_wp2_with fail
                  go_roundw
                  case rel => exact ⟨j + 1, by go_num, by omega, htj.out, hbj.out⟩
                  case measure => simp [intOf]; omega
              · have j1 : ¬ (j : Int) < (m4 : Int) := by omega
                go_wp2_with fail
                go_roundw
                case rel => exact ⟨k + 1, f2, next, M2, by omega, by go_num, htj.out, HLOW2.out, HB4.out.trans (hbj.out.mono HB4.out.size)⟩
                case measure => simp [intOf]; omega
        · have e0 : (E == 0) = false := by simpa using hE
          have hNX : Hid (NX = next) := by
            have := HIDS.out.1
            rw [if_neg (fun h => hE h.1)] at this
            have h' : NX = next + 0 := this
            show _ = _
            omega
          rw [hNX.out] at HT2
          clear hE
          go_wp2_with fail
          refine (Next_in HT2.out).mono ?_
          rintro e3 w' ⟨rfl, rfl⟩
          go_wp2_with fail
          refine (Order_in HT2.out).mono ?_
          rintro e4 w4 ⟨v4, rfl, hr4, hb4, hf4⟩
          obtain ⟨A4, c4, rfl, _, hm4, hn4, hs4⟩ := row_shape hr4
          have HR4 := Lib.hid hr4
          have HB4 : Hid (Below w.heap.size w w4) := HB2.out.trans (hb4.mono HB2.out.size)
          have HT4 := Lib.hid (HT2.out.below hb4)
          have HS4 := Lib.hid hs4
          have HN4 := Lib.hid hn4
          obtain ⟨m4, hm4⟩ : ∃ m, Hid (f2.ids.length = m) := ⟨_, rfl⟩
          have hml : (m4 : Int) ≤ 1000 := by have := HT4.out.inv.cnt; rw [← Fo.ids_len, hm4.out] at this; omega
          rw [hm4.out]
          clear hr4 hb4 hf4 hs4 hn4
          go_wp2_with fail
          obtain ⟨w0, hw0⟩ : ∃ w0 : World, w0 = wr := ⟨_, rfl⟩
          subst hw0
          go_loopw [66] (fun i wr => ∃ j : Nat, i = .int .i64 (j : Int) ∧ j ≤ m4 ∧ Hid (TreeM M2 (w.heap.size + 1) f2 next wr) ∧ Hid (Below w4.heap.size w4 wr)) (fun i _ => m4 - (intOf i).toNat)
          case atStart => exact ⟨0, rfl, Nat.zero_le _, HT4.out, Below.refl _ _⟩
          case round =>
            obtain ⟨j, rfl, hj, htj, hbj⟩ := hrel
            by_cases hjm : j < m4
            · obtain ⟨x, hx⟩ : ∃ x, Hid (f2.ids[j]? = some x) := ⟨f2.ids[j]'(by have := hm4.out; omega), List.getElem?_eq_getElem _⟩
              have hrj : intRow wr (.slice A4 f2.ids.length c4) f2.ids := row_block HR4.out fun b hb => hbj.out.block b (row_lt HR4.out hb)
              cases A4 with
              | none => exfalso; have := (HN4.out rfl).1; have := hm4.out; omega
              | some a4 =>
                obtain ⟨b4, rfl, _⟩ := HS4.out a4 rfl
                have e4 := own_cell hrj j (.int .i64 x) (by rw [List.getElem?_map, hx.out]; rfl)
                obtain ⟨x1, x2⟩ := htj.out.inv.rng x (List.mem_of_getElem? hx.out)
                have j0 : (0 : Int) ≤ (j : Int) := by omega
                have j1 : (j : Int) < (m4 : Int) := by omega
                have x3 : decide (next ≤ x) = false := decide_eq_false (by omega)
                have x4 : decide (x < 1) = false := decide_eq_false (by omega)
                clear hrj
                go_wp2_with fail
                refine (Next_in htj.out).mono ?_
                rintro e5 w' ⟨rfl, rfl⟩
                go_wp2_with fail
                go_roundw
                case rel => exact ⟨j + 1, by go_num, by omega, htj.out, hbj.out⟩
                case measure => simp [intOf]; omega
            · have j1 : ¬ (j : Int) < (m4 : Int) := by omega
              go_wp2_with fail
              go_roundw
              case rel => exact ⟨k + 1, f2, next, M2, by omega, by go_num, htj.out, HLOW2.out, HB4.out.trans (hbj.out.mono HB4.out.size)⟩
              case measure => simp [intOf]; omega
      · have hlt' : ¬ (k : Int) < l.length := by omega
        go_wp2_with fail
        refine (alive_any wr).mono ?_
        rintro e w3 ⟨rfl, hb3⟩
        have HB3 : Hid (Below w.heap.size w w3) := hbel.out.trans (hb3.mono hbel.out.size)
        clear hb3
        go_wp2_with fail
        go_ret
        exact ⟨rfl, HB3.out⟩
end Go.Proofs.Ytmkgajdgnmolkaa

/-
  Rows that come in as an argument: what a reading of them says of memory (the part that serves any row of structs).
-/
namespace Go.Proofs.Ytmkgajdgnmolkaa
open Go.RowKit Go.ChangeShapes Go.WideShapes Go.Deep

theorem add_more (ad : Addr) (a j : Nat) (hj : j ≠ 0) : ad.add (a + j) = ⟨(ad.add a).block, (ad.add a).off + j, none⟩ := by
  rw [← add_of_add]
  generalize ad.add a = b
  unfold Addr.add
  rw [if_neg hj]

/-- A row of structs whose fields have a cell each: what a reading of it says of each element's each field. -/
theorem slice_structs {H : Type} {enc : TypeId × Value → H} {P : Program} {w : World} {t e : TypeId} {fs : Array Field} {fuel : Nat} {cs : List Value} {x : DataW H × List MemPlace} (ht : P.underlying t = some (.slice e)) (he : P.underlying e = some (.struct fs))
    (h1 : oneCellFields P fs = true) (h2 : P.cellsOf e = fs.size) (h : DataW.trod enc P w 0 (fun _ => true) true fuel t cs = some x) :
    (cs = [.slice none 0 0] ∧ x.1 = .nil) ∨
    ∃ (a : Addr) (len cap : Nat) (D : Nat → DataW H) (rest : List (DataW H)), cs = [.slice (some a) len cap] ∧ len ≤ cap ∧ cap ≤ maxLen ∧ x.1 = .slice ((List.range len).map D) rest ∧
      ∀ i, i < len → ∃ (ys : List (DataW H × List MemPlace)) (n : Nat), D i = .agg (ys.map (·.1)) ∧ ys.length = fs.size ∧
        ∀ (j : Nat) (f : Field), fs[j]? = some f → ∃ v y, w.cell? (a.add (i * fs.size + j)) = some v ∧ ys[j]? = some y ∧ DataW.trod enc P w 0 (fun _ => true) true n f.type [v] = some y := by
  rcases open_slice ht h with ⟨e1, e2⟩ | ⟨a, len, cap, m, n, D, Pl, e1, _, k1, k2, k3, e2, each⟩
  · exact .inl ⟨e1, by rw [e2]⟩
  · right
    have hm : m = cap := by simpa using k3
    refine ⟨a, len, cap, D, _, e1, k1, k2, by rw [e2], fun i hi => ?_⟩
    obtain ⟨row, hrow, hread⟩ := each i (by omega)
    obtain ⟨_, hl, hat⟩ := World.cells?_some hrow
    obtain ⟨ys, n', _, hy, _, hyl, hfield⟩ := DataW.trod_struct he hread
    refine ⟨ys, n', by rw [Prod.mk.injEq] at hy; exact hy.1, hyl, fun j f hj => ?_⟩
    have hjs : j < fs.size := (Array.getElem?_eq_some_iff.1 hj).1
    obtain ⟨o1, o2⟩ := hone_of h1 j f hj
    have hjr : j < row.length := by rw [hl, h2]; exact hjs
    have hv := hat j (by rw [h2]; exact hjs)
    have hone : (row.drop f.offset).take (P.cellsOf f.type) = [row[j]] := by rw [o1, o2, List.drop_eq_getElem_cons hjr]; rfl
    have hr := hfield j f hj
    rw [hone] at hr
    have hys : ys[j]? = some (ys[j]'(by omega)) := List.getElem?_eq_getElem _
    refine ⟨row[j], _, ?_, hys, hr.trans hys⟩
    rw [h2, add_of_add, List.getElem?_eq_getElem hjr] at hv
    exact hv

theorem list_of {α : Type} {P : Nat → α → Prop} : ∀ (n : Nat), (∀ i, i < n → ∃ x, P i x) → ∃ l : List α, l.length = n ∧ ∀ i x, l[i]? = some x → P i x
  | 0, _ => ⟨[], rfl, fun _ _ h => by simp at h⟩
  | n + 1, h => by
    obtain ⟨l, hl, hp⟩ := list_of n (fun i hi => h i (by omega))
    obtain ⟨x, hx⟩ := h n (by omega)
    refine ⟨l ++ [x], by simp [hl], fun i y hy => ?_⟩
    by_cases hi : i < l.length
    · rw [List.getElem?_append_left hi] at hy; exact hp i y hy
    · rw [List.getElem?_append_right (by omega)] at hy
      have : i - l.length = 0 := by
        have := (List.getElem?_eq_some_iff.1 hy).1
        simp at this; omega
      rw [this] at hy
      simp at hy; subst hy
      rw [show i = n by omega]; exact hx

theorem bulkAll_range {H : Type} (D : Nat → DataW H) : ∀ n i, i < n → Rows.uptoBulk (D i) ≤ Rows.uptoBulkAll ((List.range n).map D) := by
  have app : ∀ (a b : List (DataW H)), Rows.uptoBulkAll (a ++ b) = Rows.uptoBulkAll a + Rows.uptoBulkAll b := by
    intro a b
    induction a with
    | nil => simp [Rows.uptoBulkAll]
    | cons x a ih => simp only [List.cons_append, Rows.uptoBulkAll, ih]; omega
  intro n
  induction n with
  | zero => intro i h; omega
  | succ n ih =>
    intro i h
    rw [List.range_succ, List.map_append, app]
    by_cases hi : i < n
    · have := ih i hi; omega
    · have : i = n := by omega
      subst this
      simp [Rows.uptoBulkAll]
theorem bulkAll_sum {H α : Type} (f : α → Nat) (D : Nat → DataW H) : ∀ (l : List α), (∀ i x, l[i]? = some x → f x ≤ Rows.uptoBulk (D i)) → (l.map f).sum ≤ Rows.uptoBulkAll ((List.range l.length).map D) := by
  have app : ∀ (a b : List (DataW H)), Rows.uptoBulkAll (a ++ b) = Rows.uptoBulkAll a + Rows.uptoBulkAll b := by
    intro a b
    induction a with
    | nil => simp [Rows.uptoBulkAll]
    | cons x a ih => simp only [List.cons_append, Rows.uptoBulkAll, ih]; omega
  have key : ∀ (n : Nat) (l : List α), l.length = n → (∀ i x, l[i]? = some x → f x ≤ Rows.uptoBulk (D i)) → (l.map f).sum ≤ Rows.uptoBulkAll ((List.range n).map D) := by
    intro n
    induction n with
    | zero => intro l hl _; rw [List.eq_nil_of_length_eq_zero hl]; simp
    | succ n ih =>
      intro l hl h
      have hne : l ≠ [] := fun e => by rw [e] at hl; cases hl
      rw [← List.dropLast_concat_getLast hne, List.map_append, List.sum_append, List.range_succ, List.map_append, app]
      have h1 := ih l.dropLast (by simp [hl]) (fun i x hx => h i x (by
        have hi := (List.getElem?_eq_some_iff.1 hx).1
        rw [List.getElem?_dropLast] at hx
        split at hx
        · exact hx
        · cases hx))
      have h2 := h n (l.getLast hne) (by rw [List.getLast_eq_getElem, ← List.getElem?_eq_getElem, hl]; rfl)
      simp only [List.map_cons, List.map_nil, List.sum_cons, List.sum_nil, Rows.uptoBulkAll]
      omega
  intro l h
  exact key l.length l rfl h

theorem sum_ones {α : Type} (l : List α) : (l.map (fun _ => 1)).sum = l.length := by
  induction l with
  | nil => rfl
  | cons x l ih => rw [List.map_cons, List.sum_cons, ih, List.length_cons]; omega

end Go.Proofs.Ytmkgajdgnmolkaa

/-
  Rows of items that come in as an argument: what a reading of them says of memory.
-/
namespace Go.Proofs.Ytmkgajdgnmolkaa
open Go.RowKit Go.ChangeShapes Go.WideShapes Go.Deep

theorem open_attrs {W : World} {H : Type} {enc : TypeId × Value → H} {fuel : Nat} {cs : List Value} {x : DataW H × List MemPlace} (h : DataW.trod enc Try.prog W 0 (fun _ => true) true fuel 38 cs = some x) :
    ∃ (A : Option Addr) (c : Nat) (l : List AttrD), cs = [.slice A l.length c] ∧ AttrsAt W W.heap.size A l ∧ l.length ≤ c ∧ (A = none → c = 0) ∧ l.length ≤ Rows.uptoBulk x.1 ∧ (∀ a ∈ l, a.name.length + a.value.length ≤ Rows.uptoBulk x.1) := by
  rcases slice_structs Try.underlying38 Try.underlying64 (by kernel_rfl) (by kernel_rfl) h with ⟨rfl, hx⟩ | ⟨a, len, cap, D, rest, rfl, hlc, hcm, hx, hf⟩
  · exact ⟨none, 0, [], rfl, fun h => absurd h (by simp), Nat.le_refl _, fun _ => rfl, by simp, by simp⟩
  · rw [hx]
    obtain ⟨l, hl, hp⟩ := list_of (P := fun i (y : AttrD) => W.cell? (a.add (i * 2)) = some (strV y.name) ∧ W.cell? ⟨(a.add (i * 2)).block, (a.add (i * 2)).off + 1, none⟩ = some (strV y.value) ∧ y.name.length + y.value.length + 1 ≤ Rows.uptoBulk (D i)) len (fun i hi => by
      obtain ⟨ys, n, hD, hyl, hj⟩ := hf i hi
      obtain ⟨v0, y0, hc0, hy0, ht0⟩ := hj 0 _ rfl
      obtain ⟨v1, y1, hc1, hy1, ht1⟩ := hj 1 _ rfl
      obtain ⟨s0, e0, rfl, _⟩ := DataW.trod_string Try.underlying9 ht0
      obtain ⟨s1, e1, rfl, _⟩ := DataW.trod_string Try.underlying9 ht1
      injection e0 with e0 _; subst e0
      injection e1 with e1 _; subst e1
      refine ⟨⟨s0.data.toList, s1.data.toList⟩, ?_, ?_, ?_⟩
      · rw [Nat.add_zero] at hc0
        rw [show i * 2 = i * (_ : Nat) from rfl]; exact hc0
      · rw [add_more _ _ _ (by decide)] at hc1; exact hc1
      · rw [hD]
        match ys, hyl, hy0, hy1 with
        | [z0, z1], _, hy0, hy1 =>
          simp at hy0 hy1
          subst hy0; subst hy1
          simp [Rows.uptoBulk, Rows.uptoBulkAll]
          omega)
    refine ⟨some a, cap, l, by rw [hl], ?_, by omega, (fun h => by cases h), ?_, ?_⟩
    · intro hpos
      have h0 : l[0]? = some (l[0]'hpos) := List.getElem?_eq_getElem hpos
      have hb := World.block_lt_of_cell? W _ (hp 0 _ h0).1
      rw [block_of_add] at hb
      exact ⟨a, rfl, hb, fun k y hy => ⟨(hp k y hy).1, (hp k y hy).2.1⟩⟩
    · have := bulkAll_sum (fun _ : AttrD => 1) D l (fun i y hy => by have := (hp i y hy).2.2; omega)
      rw [hl] at this
      simp only [Rows.uptoBulk]
      have e := sum_ones l
      omega
    · intro y hy
      obtain ⟨k, hk⟩ := List.mem_iff_getElem?.1 hy
      have h1 := (hp k y hk).2.2
      have h2 := bulkAll_range D len k (by rw [← hl]; exact (List.getElem?_eq_some_iff.1 hk).1)
      simp only [Rows.uptoBulk]
      omega

/-- A nil slice of attributes has no room. -/
def NilAt (w : World) (A : Option Addr) (l : List ItemD) : Prop := ∀ ad, A = some ad → ∀ k x A' c', l[k]? = some x → w.cell? ⟨(ad.add (k * 5)).block, (ad.add (k * 5)).off + 4, none⟩ = some (.slice A' x.attrs.length c') → A' = none → c' = 0

theorem open_items {W : World} {H : Type} {enc : TypeId × Value → H} {v : Value} {d : DataW H} {p : List MemPlace} (hok : ∃ a n c, v = .slice a n c) (h : DataW.Trod enc Try.prog W 0 (fun _ => true) true 27 v d p) (hbulk : Rows.uptoBulk d ≤ 1048576) :
    ∃ (A : Option Addr) (c : Nat) (l : List ItemD), v = .slice A l.length c ∧ ItemsAt W W.heap.size A l ∧ SmallDoc l ∧ l.length ≤ 1048576 ∧ textSum l ≤ 1048576 ∧ NilAt W A l := by
  obtain ⟨va, vn, vc, rfl⟩ := hok
  obtain ⟨fuel, h⟩ := h
  rcases slice_structs Try.underlying27 Try.underlying51 (by kernel_rfl) (by kernel_rfl) h with ⟨e, e2⟩ | ⟨a, len, cap, D, rest, e, hlc, hcm, e2, hf⟩
  · injection e with e _
    injection e with e1 e2' e3
    subst e1; subst e2'; subst e3
    refine ⟨none, 0, [], rfl, fun h => absurd h (by simp), ⟨⟨by simp, fun _ _ h => by simp at h⟩, by simp [textSum]⟩, by simp, by simp [textSum], fun _ h => by cases h⟩
  · injection e with e _
    injection e with e1 e2' e3
    subst e1
    have e2'' := e2'.symm
    have e3'' := e3.symm
    subst e2''; subst e3''
    have e2 : d = .slice ((List.range len).map D) rest := e2
    subst e2
    obtain ⟨l, hl, hp⟩ := list_of (P := fun i (x : ItemD) => ∃ (A' : Option Addr) (c' : Nat), AttrsAt W W.heap.size A' x.attrs ∧ x.attrs.length ≤ c' ∧ W.cell? (a.add (i * 5)) = some (.int .i64 x.level) ∧ W.cell? ⟨(a.add (i * 5)).block, (a.add (i * 5)).off + 1, none⟩ = some (.int .i64 x.kind) ∧
        W.cell? ⟨(a.add (i * 5)).block, (a.add (i * 5)).off + 2, none⟩ = some (strV x.name) ∧ W.cell? ⟨(a.add (i * 5)).block, (a.add (i * 5)).off + 3, none⟩ = some (strV x.text) ∧ W.cell? ⟨(a.add (i * 5)).block, (a.add (i * 5)).off + 4, none⟩ = some (.slice A' x.attrs.length c') ∧
        (-9223372036854775808 ≤ x.level ∧ x.level ≤ 9223372036854775807) ∧ x.name.length + x.text.length + x.attrs.length + 1 ≤ Rows.uptoBulk (D i) ∧ (∀ y ∈ x.attrs, y.name.length + y.value.length ≤ Rows.uptoBulk (D i)) ∧ (A' = none → c' = 0)) len (fun i hi => by
      obtain ⟨ys, n, hD, hyl, hj⟩ := hf i hi
      obtain ⟨v0, y0, hc0, hy0, ht0⟩ := hj 0 _ rfl
      obtain ⟨v1, y1, hc1, hy1, ht1⟩ := hj 1 _ rfl
      obtain ⟨v2, y2, hc2, hy2, ht2⟩ := hj 2 _ rfl
      obtain ⟨v3, y3, hc3, hy3, ht3⟩ := hj 3 _ rfl
      obtain ⟨v4, y4, hc4, hy4, ht4⟩ := hj 4 _ rfl
      obtain ⟨n0, e0, rfl, w0⟩ := DataW.trod_int Try.underlying3 ht0
      obtain ⟨n1, e1, rfl, _⟩ := DataW.trod_int Try.underlying3 ht1
      obtain ⟨s2, e2, rfl, _⟩ := DataW.trod_string Try.underlying9 ht2
      obtain ⟨s3, e3, rfl, _⟩ := DataW.trod_string Try.underlying9 ht3
      obtain ⟨A', c', la, e4, hat, hlc', hnil, hb1, hb2⟩ := open_attrs ht4
      injection e0 with e0 _; subst e0
      injection e1 with e1 _; subst e1
      injection e2 with e2 _; subst e2
      injection e3 with e3 _; subst e3
      injection e4 with e4 _; subst e4
      rw [add_more _ _ _ (by decide)] at hc1 hc2 hc3 hc4
      rw [Nat.add_zero] at hc0
      refine ⟨⟨n0, n1, s2.data.toList, s3.data.toList, la⟩, A', c', hat, hlc', hc0, hc1, hc2, hc3, hc4, ?_, ?_, ?_, hnil⟩
      · simp [Lit.wf, IntKind.min, IntKind.max, IntKind.signed, IntKind.bits] at w0
        show -9223372036854775808 ≤ n0 ∧ n0 ≤ 9223372036854775807
        exact ⟨by omega, by omega⟩
      · rw [hD]
        match ys, hyl, hy0, hy1, hy2, hy3, hy4 with
        | [z0, z1, z2, z3, z4], _, hy0, hy1, hy2, hy3, hy4 =>
          simp at hy0 hy1 hy2 hy3 hy4
          subst hy0; subst hy1; subst hy2; subst hy3; subst hy4
          simp [Rows.uptoBulk, Rows.uptoBulkAll]
          omega
      · intro y hy
        rw [hD]
        have := hb2 y hy
        match ys, hyl, hy0, hy1, hy2, hy3, hy4 with
        | [z0, z1, z2, z3, z4], _, hy0, hy1, hy2, hy3, hy4 =>
          simp at hy0 hy1 hy2 hy3 hy4
          subst hy0; subst hy1; subst hy2; subst hy3; subst hy4
          simp [Rows.uptoBulk, Rows.uptoBulkAll]
          omega)
    simp only [Rows.uptoBulk] at hbulk
    have hone : ∀ k, k < len → Rows.uptoBulk (D k) ≤ 1048576 := fun k hk => by have := bulkAll_range D len k hk; omega
    have hcount := bulkAll_sum (fun _ : ItemD => 1) D l (fun i y hy => by obtain ⟨_, _, _, _, _, _, _, _, _, _, h, _⟩ := hp i y hy; omega)
    have htext := bulkAll_sum (fun x : ItemD => x.text.length) D l (fun i y hy => by obtain ⟨_, _, _, _, _, _, _, _, _, _, h, _⟩ := hp i y hy; omega)
    have e := sum_ones l
    rw [hl] at hcount htext
    have hl2 : l.length ≤ 1048576 := by omega
    have ht2 : textSum l ≤ 1048576 := by unfold textSum; omega
    refine ⟨some a, cap, l, by rw [hl], ?_, ⟨⟨by omega, fun k x hx => ?_⟩, by omega⟩, hl2, ht2, ?_⟩
    · intro hpos
      have h0 : l[0]? = some (l[0]'hpos) := List.getElem?_eq_getElem hpos
      obtain ⟨_, _, _, _, hc0, _⟩ := hp 0 _ h0
      have hb := World.block_lt_of_cell? W _ hc0
      rw [block_of_add] at hb
      refine ⟨a, rfl, hb, fun k x hx => ?_⟩
      obtain ⟨A', c', k1, k2, k3, k4, k5, k6, k7, _⟩ := hp k x hx
      exact ⟨A', c', k1, k2, k3, k4, k5, k6, k7⟩
    · obtain ⟨A', c', k1, k2, k3, k4, k5, k6, k7, k8, k9, k10⟩ := hp k x hx
      have hk := hone k (by rw [← hl]; exact (List.getElem?_eq_some_iff.1 hx).1)
      exact ⟨by omega, by omega, by omega, fun j y hy => by have := k10.1 y (List.mem_of_getElem? hy); omega, k8⟩
    · intro ad had k x A2 c2 hx hcell hA2
      injection had with had
      subst had
      obtain ⟨A', c', k1, k2, k3, k4, k5, k6, k7, k8, k9, k10⟩ := hp k x hx
      rw [k7] at hcell
      injection hcell with hcell
      injection hcell with q1 _ q3
      rw [← q3]
      exact k10.2 (by rw [q1]; exact hA2)
end Go.Proofs.Ytmkgajdgnmolkaa

/-
  Rows of calls that come in as an argument: what a reading of them says of memory.
-/
namespace Go.Proofs.Ytmkgajdgnmolkaa
open Go.RowKit Go.ChangeShapes Go.WideShapes Go.Deep

theorem wf_lit {n : Int} (h : (Lit.int .i64 n).wf = true) : wfI n := by
  simp [Lit.wf, IntKind.min, IntKind.max, IntKind.signed, IntKind.bits] at h
  exact ⟨by omega, by omega⟩
theorem open_ops {W : World} {H : Type} {enc : TypeId × Value → H} {v : Value} {d : DataW H} {p : List MemPlace} (hok : ∃ a n c, v = .slice a n c) (h : DataW.Trod enc Try.prog W 0 (fun _ => true) true 22 v d p) (hbulk : Rows.uptoBulk d ≤ 1048576) :
    ∃ (A : Option Addr) (c : Nat) (l : List OpD), v = .slice A l.length c ∧ OpsAt W W.heap.size A l ∧ SmallOps l ∧ True := by
  obtain ⟨va, vn, vc, rfl⟩ := hok
  obtain ⟨fuel, h⟩ := h
  rcases slice_structs Try.underlying22 Try.underlying29 (by kernel_rfl) (by kernel_rfl) h with ⟨e, e2⟩ | ⟨a, len, cap, D, rest, e, hlc, hcm, e2, hf⟩
  · injection e with e _
    injection e with e1 e2' e3
    subst e1; subst e2'; subst e3
    exact ⟨none, 0, [], rfl, fun h => absurd h (by simp), ⟨by simp, by simp⟩, trivial⟩
  · injection e with e _
    injection e with e1 e2' e3
    subst e1
    have e2'' := e2'.symm
    have e3'' := e3.symm
    subst e2''; subst e3''
    have e2 : d = .slice ((List.range len).map D) rest := e2
    subst e2
    simp only [Rows.uptoBulk] at hbulk
    have hone : ∀ k, k < len → Rows.uptoBulk (D k) ≤ 1048576 := fun k hk => by have := bulkAll_range D len k hk; omega
    obtain ⟨l, hl, hp⟩ := list_of (P := fun i (x : OpD) => (∃ (A' : Option Addr) (c' : Nat), ItemsAt W W.heap.size A' x.l ∧ x.l.length ≤ c' ∧ OpCells W a i x A' c') ∧ SmallOp x ∧ x.l.length ≤ 1048576 ∧ 1 ≤ Rows.uptoBulk (D i)) len (fun i hi => by
      obtain ⟨ys, n, hD, hyl, hj⟩ := hf i hi
      obtain ⟨v0, y0, hc0, hy0, ht0⟩ := hj 0 _ rfl
      obtain ⟨v1, y1, hc1, hy1, ht1⟩ := hj 1 _ rfl
      obtain ⟨v2, y2, hc2, hy2, ht2⟩ := hj 2 _ rfl
      obtain ⟨v3, y3, hc3, hy3, ht3⟩ := hj 3 _ rfl
      obtain ⟨v4, y4, hc4, hy4, ht4⟩ := hj 4 _ rfl
      obtain ⟨v5, y5, hc5, hy5, ht5⟩ := hj 5 _ rfl
      obtain ⟨v6, y6, hc6, hy6, ht6⟩ := hj 6 _ rfl
      obtain ⟨n0, e0, rfl, w0⟩ := DataW.trod_int Try.underlying3 ht0
      obtain ⟨n1, e1, rfl, w1⟩ := DataW.trod_int Try.underlying3 ht1
      obtain ⟨n2, e2, rfl, w2⟩ := DataW.trod_int Try.underlying3 ht2
      obtain ⟨n3, e3, rfl, w3⟩ := DataW.trod_int Try.underlying3 ht3
      obtain ⟨s4, e4, rfl, _⟩ := DataW.trod_string Try.underlying9 ht4
      obtain ⟨s5, e5, rfl, _⟩ := DataW.trod_string Try.underlying9 ht5
      have hb := hone i hi
      rw [hD] at hb
      have hbk : s4.size ≤ 1048576 ∧ s5.size ≤ 1048576 ∧ Rows.uptoBulk y6.1 ≤ 1048576 := by
        match ys, hyl, hy0, hy1, hy2, hy3, hy4, hy5, hy6 with
        | [z0, z1, z2, z3, z4, z5, z6], _, hy0, hy1, hy2, hy3, hy4, hy5, hy6 =>
          simp at hy0 hy1 hy2 hy3 hy4 hy5 hy6
          subst hy0; subst hy1; subst hy2; subst hy3; subst hy4; subst hy5; subst hy6
          simp [Rows.uptoBulk, Rows.uptoBulkAll] at hb
          have h4 : s4.data.toList.length = s4.size := by rw [Array.length_toList]; rfl
          have h5 : s5.data.toList.length = s5.size := by rw [Array.length_toList]; rfl
          omega
      have hsl : ∃ a n c, v6 = .slice a n c := by
        rcases slice_structs Try.underlying27 Try.underlying51 (by kernel_rfl) (by kernel_rfl) ht6 with ⟨e, _⟩ | ⟨a, len, cap, _, _, e, _⟩
        · injection e with e _; exact ⟨_, _, _, e⟩
        · injection e with e _; exact ⟨_, _, _, e⟩
      obtain ⟨va6, vn6, vc6, rfl⟩ := hsl
      obtain ⟨A', c', la, e6, hat, hsm, hln, _, _⟩ := open_items (v := .slice va6 vn6 vc6) (d := y6.1) (p := y6.2) ⟨_, _, _, rfl⟩ ⟨n, ht6⟩ hbk.2.2
      have hlc' : la.length ≤ c' := by
        rcases slice_structs Try.underlying27 Try.underlying51 (by kernel_rfl) (by kernel_rfl) ht6 with ⟨e, _⟩ | ⟨a, len, cap, _, _, e, h1, _⟩
        · injection e with e _; rw [e6] at e; injection e with _ e _; omega
        · injection e with e _; rw [e6] at e; injection e with _ e e'; omega
      injection e0 with e0 _; subst e0
      injection e1 with e1 _; subst e1
      injection e2 with e2 _; subst e2
      injection e3 with e3 _; subst e3
      injection e4 with e4 _; subst e4
      injection e5 with e5 _; subst e5
      rw [e6] at hc6
      rw [add_more _ _ _ (by decide)] at hc1 hc2 hc3 hc4 hc5 hc6
      rw [Nat.add_zero] at hc0
      have h4 : s4.data.toList.length = s4.size := by rw [Array.length_toList]; rfl
      have h5 : s5.data.toList.length = s5.size := by rw [Array.length_toList]; rfl
      refine ⟨⟨n0, n1, n2, n3, s4.data.toList, s5.data.toList, la⟩, ⟨A', c', hat, hlc', hc0, hc1, hc2, hc3, hc4, hc5, hc6⟩, ⟨⟨wf_lit w0, wf_lit w1, wf_lit w2, wf_lit w3⟩, ?_, ?_, hsm.1⟩, hln, ?_⟩
      · show s4.data.toList.length ≤ 1000000000; omega
      · show s5.data.toList.length ≤ 1000000000; omega
      · rw [hD]; simp [Rows.uptoBulk])
    have hcount := bulkAll_sum (fun _ : OpD => 1) D l (fun i y hy => (hp i y hy).2.2.2)
    have e := sum_ones l
    rw [hl] at hcount
    refine ⟨some a, cap, l, by rw [hl], ?_, ⟨by omega, fun o ho => ?_⟩, trivial⟩
    · intro hpos
      have h0 : l[0]? = some (l[0]'hpos) := List.getElem?_eq_getElem hpos
      obtain ⟨A', c', _, _, hc0⟩ := (hp 0 _ h0).1
      have hb := World.block_lt_of_cell? W _ hc0.1
      rw [block_of_add] at hb
      exact ⟨a, rfl, hb, fun k x hx => (hp k x hx).1⟩
    · obtain ⟨k, hk⟩ := List.mem_iff_getElem?.1 ho
      exact ⟨(hp k o hk).2.1, (hp k o hk).2.2.1⟩
end Go.Proofs.Ytmkgajdgnmolkaa

/-
  Trees: how many kids, how many items: plain; a node that is told.
-/
namespace Go.Proofs.Ytmkgajdgnmolkaa
open Go.RowKit Go.Shelf

def kl (g : Int → Option Ent) (x : Int) : Nat := match g x with
  | some e => e.kids.length
  | none => 0
def kidSum (g : Int → Option Ent) (l : List Int) : Nat := (l.map (kl g)).sum
theorem kid_sum {g : Int → Option Ent} : ∀ (F : Fo) (q : Int), Agr g q F → kidSum g F.ids + F.roots.length = F.cnt
  | .nil, _, _ => rfl
  | .cons id d ks r, q, ⟨a1, a2, a3⟩ => by
    have h1 := kid_sum ks id a2
    have h2 := kid_sum r q a3
    have h3 : kl g id = ks.roots.length := by unfold kl; rw [a1]
    unfold kidSum at *
    simp only [Fo.ids, Fo.roots, Fo.cnt, List.map_cons, List.map_append, List.sum_cons, List.sum_append, List.length_cons, h3]
    omega
theorem kidSum_snoc {g : Int → Option Ent} {l : List Int} {k : Nat} {x : Int} {e : Ent} (h : l[k]? = some x) (he : g x = some e) : kidSum g (l.take (k + 1)) = kidSum g (l.take k) + e.kids.length := by
  unfold kidSum
  rw [List.take_add_one, h]
  simp [kl, he]
theorem kidSum_take {g : Int → Option Ent} (l : List Int) (k : Nat) : kidSum g (l.take k) ≤ kidSum g l := by
  unfold kidSum
  have : (l.map (kl g)).sum = ((l.take k).map (kl g)).sum + ((l.drop k).map (kl g)).sum := by
    rw [← List.sum_append, ← List.map_append, List.take_append_drop]
  omega
section
variable {M : Nat → Prop} {t : Nat} {f : Fo} {next : Int} {w w' : World}
theorem InvF.kids_all (h : InvF f next) : kidSum (f.ent 0) f.ids + f.roots.length = f.cnt := kid_sum f 0 (Fo.agr_ent f 0 h.nd)
theorem InvF.roots_one (h : InvF f next) : f.roots.length = if f.cnt = 0 then 0 else 1 := by
  cases f with
  | nil => rfl
  | cons id d ks r =>
    obtain ⟨rfl, _⟩ := h.one id d ks r rfl
    simp [Fo.roots, Fo.cnt]
theorem InvF.items_len (h : InvF f next) {id : Int} {e : Ent} (he : f.ent 0 id = some e) : 1 + e.kids.length ≤ (itemsAt (f.flat 0) id).length ∧ (itemsAt (f.flat 0) id).length ≤ 1000 := by
  obtain ⟨lv, ks, A, B, hs, hk, _⟩ := h.stand he
  rw [items_stand hs, List.length_map, Fo.flat_len, hk]
  have h1 := roots_le ks
  have h2 := (Fo.sub_ent f id 0 0 lv e.d ks h.nd hs.sub).2.2.2.2.2.1
  have h3 := h.cnt
  simp only [Fo.cnt]
  omega
theorem InvF.items_root (h : InvF f next) : itemsAt (f.flat 0) (rootF f) = (f.flat 0).map (·.x) := by
  cases f with
  | nil => rfl
  | cons id d ks r =>
    obtain ⟨rfl, _⟩ := h.one id d ks r rfl
    obtain ⟨lv, d', ks', A, B, hs⟩ := stand_of h.nd (show id ∈ (Fo.cons id d ks .nil).ids by simp [Fo.ids])
    have hsub : (Fo.cons id d ks .nil).sub id 0 = some (0, d, ks) := by rw [Fo.sub, if_pos rfl]
    have := hs.sub
    rw [hsub] at this
    injection this with this
    injection this with h1 this
    injection this with h2 h3
    subst h1; subst h2; subst h3
    exact items_stand hs
theorem InvF.root_wf (h : InvF f next) : wfI (rootF f) := by
  cases f with
  | nil => exact ⟨by decide, by decide⟩
  | cons id d ks r =>
    have := h.rng id (by simp [Fo.ids])
    have := h.nx
    exact ⟨by show _ ≤ id; omega, by show id ≤ _; omega⟩
theorem InvF.root_len (h : InvF f next) : (itemsAt (f.flat 0) (rootF f)).length = f.cnt := by rw [h.items_root, List.length_map, Fo.flat_len]
theorem Get_in (h : TreeM M t f next w) {id : Int} {e : Ent} (he : f.ent 0 id = some e) : Calls Try.prog 16 #[.pointer (some ⟨t, 0, none⟩), .int .i64 id] w fun er w' => ∃ A c, er = .returned (.tuple #[.agg (nodeR id e (.slice A e.d.attrs.length c)), .bool true]) ∧ AttrsOwn w' w.heap.size A c e.d.attrs ∧ Below w.heap.size w w' := by
  obtain ⟨_, _, h, hi, _⟩ := h
  exact Get_yes h (hi.wf _ _ he) he (by have := hi.attrs _ _ he; omega) (by have := hi.kidsN _ _ he; omega)
theorem Get_out (h : TreeM M t f next w) {id : Int} (hw : wfI id) (he : f.ent 0 id = none) : Calls Try.prog 16 #[.pointer (some ⟨t, 0, none⟩), .int .i64 id] w fun e w' => e = .returned (.tuple #[.agg nodeZ, .bool false]) ∧ Below w.heap.size w w' := by
  obtain ⟨_, _, h, hi, _⟩ := h
  exact Get_no h hw he
theorem Kid_past (h : TreeM M t f next w) {id : Int} {e : Ent} (he : f.ent 0 id = some e) : Calls Try.prog 17 #[.pointer (some ⟨t, 0, none⟩), .int .i64 id, .int .i64 (e.kids.length : Int)] w fun er w' => er = .returned (.tuple #[.int .i64 0, .bool false]) ∧ w = w' := by
  obtain ⟨_, _, h, hi, _⟩ := h
  exact Kid_out h (e.kids.length : Int) (hi.wf _ _ he) he (.inr (Int.le_refl _))
theorem Kid_in (h : TreeM M t f next w) {id : Int} {e : Ent} (he : f.ent 0 id = some e) (k : Nat) (x : Int) (hk : e.kids[k]? = some x) : Calls Try.prog 17 #[.pointer (some ⟨t, 0, none⟩), .int .i64 id, .int .i64 (k : Int)] w fun er w' => er = .returned (.tuple #[.int .i64 x, .bool true]) ∧ w = w' := by
  obtain ⟨_, _, h, hi, _⟩ := h
  exact Kid_yes h k x (hi.wf _ _ he) he hk
end
end Go.Proofs.Ytmkgajdgnmolkaa

/-
  The law GroveCounts: all kids together are all nodes but the root.
-/
namespace Go.Proofs.Ytmkgajdgnmolkaa
open Go.RowKit Go.Shelf

attribute [local go_sem] Oper.semAt_some

set_option maxRecDepth 100000 in
set_option maxHeartbeats 4000000 in
theorem walk_GroveCounts (l : List OpD) (A : Option Addr) (c : Nat) (w : World) (hI : OpsAt w w.heap.size A l) (hS : SmallOps l) :
    Calls Try.prog 5 #[.slice A l.length c] w (Ret w (.bool true)) := by
  have HI := Lib.hid hI
  have HS := Lib.hid hS
  have hln : (l.length : Int) ≤ 1048576 := by have := hS.1; omega
  clear hI hS
  go_enter Try.func5, Try.ntmps5
  go_wp2_with fail
  refine (New_in w).mono ?_
  rintro e w1 ⟨rfl, hb1, ht1⟩
  have HB1 := Lib.hid hb1
  have HT1 := Lib.hid ht1
  have HI1 := Lib.hid (HI.out.below hb1)
  clear hb1 ht1
  go_wp2_with fail
  cases hfew : fewL l with
  | false =>
    refine (few_any l A c w.heap.size w1 HI1.out HB1.out.size HS.out false hfew).mono ?_
    rintro e w2 ⟨rfl, hb2⟩
    have HB2 : Hid (Below w.heap.size w w2) := HB1.out.trans (hb2.mono HB1.out.size)
    clear hb2 hfew
    go_wp2_with fail
    refine (alive_any w2).mono ?_
    rintro e w3 ⟨rfl, hb3⟩
    have HB3 : Hid (Below w.heap.size w w3) := HB2.out.trans (hb3.mono HB2.out.size)
    clear hb3
    go_wp2_with fail
    go_ret
    exact ⟨rfl, HB3.out⟩
  | true =>
    refine (few_any l A c w.heap.size w1 HI1.out HB1.out.size HS.out true hfew).mono ?_
    rintro e w2 ⟨rfl, hb2⟩
    have HB2 : Hid (Below w.heap.size w w2) := HB1.out.trans (hb2.mono HB1.out.size)
    have HT2 := Lib.hid (HT1.out.below hb2)
    clear hb2 hfew
    go_wp2_with fail
    go_loopw [28] (fun i wr => ∃ (k : Nat) (f : Fo) (next : Int) (M : Nat → Prop), k ≤ l.length ∧ i = .int .i64 (k : Int) ∧ Hid (TreeM M (w.heap.size + 1) f next wr) ∧ Hid (∀ b, M b → w.heap.size ≤ b) ∧ Hid (Below w.heap.size w wr)) (fun i _ => l.length - (intOf i).toNat)
    case atStart => exact ⟨0, .nil, 1, _, Nat.zero_le _, rfl, HT2.out, fun b hb => by rcases hb with rfl | rfl <;> omega, HB2.out⟩
    case round =>
      obtain ⟨k, f, next, M, hk, rfl, ht, hlow, hbel⟩ := hrel
      clear HB2 HT2 HB1 HT1 HI1
      by_cases hlt : k < l.length
      · obtain ⟨o, ho⟩ : ∃ o, Hid (l[k]? = some o) := ⟨l[k], List.getElem?_eq_getElem _⟩
        obtain ⟨hso, hol⟩ := HS.out.2 o (List.mem_of_getElem? ho.out)
        have HSO := Lib.hid hso
        obtain ⟨ad, hAd, hadB, hcells⟩ := (HI.out.below hbel.out) (by omega)
        subst hAd
        obtain ⟨A', c', hit, hcap, k0, k1, k2, k3, k4, k5, k6⟩ := hcells k o ho.out
        have hlt' : (k : Int) < l.length := by omega
        obtain ⟨W1, hW1⟩ : ∃ W1, Hid (W1 = wr.alloc (.cells (opVal o A' c') 29)) := ⟨_, rfl⟩
        have hb1 : Below wr.heap.size wr W1 := by rw [hW1.out]; exact (Below.refl _ wr).alloc (Nat.le_refl _) _
        have hX1 : W1.heap[wr.heap.size]? = some (.cells (opVal o A' c') 29 (0, 0)) := by rw [hW1.out]; exact heap_alloc_new wr _
        have HT1 := Lib.hid (ht.out.below hb1)
        have HB1 : Hid (Below w.heap.size w W1) := hbel.out.trans (hb1.mono hbel.out.size)
        have HIT := Lib.hid (hit.below (hb1.mono hbel.out.size))
        have hW1' := hW1.out
        unfold opVal strV at hW1'
        replace hW1 := Lib.hid hW1'
        unfold strV at k4 k5
        unfold opVal strV at hX1
        have d0 := cell_row hX1 0 _ rfl
        have d1 := cell_row hX1 1 _ rfl
        have d2 := cell_row hX1 2 _ rfl
        have d3 := cell_row hX1 3 _ rfl
        have d4 := cell_row hX1 4 _ rfl
        have d5 := cell_row hX1 5 _ rfl
        have d6 := cell_row hX1 6 _ rfl
        rw [hW1.out] at d0 d1 d2 d3 d4 d5 d6
        clear hcells hit hb1 hX1 hso hol hcap hW1'
        go_wp2_with fail
        rw [← hW1.out]
        refine (does_in HT1.out o A' c' w.heap.size HIT.out hlow.out HB1.out.size HSO.out).mono ?_
        rintro e2 w2 ⟨rfl, M2, f2, hf2, ht2, hg2⟩
        have HT2 := Lib.hid ht2
        have HLOW2 := Lib.hid (hg2.low hlow.out HB1.out.size)
        have HB2 : Hid (Below w.heap.size w w2) := HB1.out.trans (hg2.1.below hlow.out HB1.out.size)
        clear hf2 ht2 hg2 d0 d1 d2 d3 d4 d5 d6 k0 k1 k2 k3 k4 k5 k6
        go_wp2_with fail
        go_roundw
        case rel => exact ⟨k + 1, f2, _, M2, by omega, by go_num, HT2.out, HLOW2.out, HB2.out⟩
        case measure => simp [intOf]; omega
      · have hlt' : ¬ (k : Int) < l.length := by omega
        have HI := Lib.hid ht.out.inv
        have hcn : (f.cnt : Int) ≤ 1000 := by have := HI.out.cnt; omega
        have hcn0 : (0 : Int) ≤ (f.cnt : Int) := by omega
        go_wp2_with fail
        refine (Order_in ht.out).mono ?_
        rintro e4 w4 ⟨v4, rfl, hr4, hb4, hf4⟩
        obtain ⟨A4, c4, rfl, _, hm4, hn4, hs4⟩ := row_shape hr4
        have HR4 := Lib.hid hr4
        have HB4 : Hid (Below w.heap.size w w4) := hbel.out.trans (hb4.mono hbel.out.size)
        have HT4 := Lib.hid (ht.out.below hb4)
        have HS4 := Lib.hid hs4
        have HN4 := Lib.hid hn4
        obtain ⟨m4, hm4⟩ : ∃ m, Hid (f.ids.length = m) := ⟨_, rfl⟩
        have hml : (m4 : Int) ≤ 1000 := by have := HI.out.cnt; rw [← Fo.ids_len, hm4.out] at this; omega
        rw [hm4.out]
        clear hr4 hb4 hf4 hs4 hn4
        go_wp2_with fail
        obtain ⟨w0, hw0⟩ : ∃ w0 : World, w0 = wr := ⟨_, rfl⟩
        subst hw0
        go_loopw [6, 39] (fun s i wr => ∃ j n : Nat, i = .int .i64 (j : Int) ∧ j ≤ m4 ∧ s = .int .i64 (n : Int) ∧ Hid (kidSum (f.ent 0) (f.ids.take j) = n) ∧ Hid (TreeM M (w.heap.size + 1) f next wr) ∧ Hid (Below w4.heap.size w4 wr)) (fun _ i _ => m4 - (intOf i).toNat)
        case atStart => exact ⟨0, 0, rfl, Nat.zero_le _, rfl, rfl, HT4.out, Below.refl _ _⟩
        case round =>
          obtain ⟨j, n, rfl, hj, rfl, hn, htj, hbj⟩ := hrel
          have hnb : (n : Int) ≤ 1000 := by have h1 := kidSum_take (g := f.ent 0) f.ids j; have h2 := HI.out.kids_all; rw [hn.out] at h1; omega
          have hn0 : (0 : Int) ≤ (n : Int) := by omega
          by_cases hjm : j < m4
          · obtain ⟨x, hx⟩ : ∃ x, Hid (f.ids[j]? = some x) := ⟨f.ids[j]'(by have := hm4.out; omega), List.getElem?_eq_getElem _⟩
            obtain ⟨e, he⟩ : ∃ e, Hid (f.ent 0 x = some e) := Fo.ent_some f 0 x (List.mem_of_getElem? hx.out)
            have hrj : intRow wr (.slice A4 f.ids.length c4) f.ids := row_block HR4.out fun b hb => hbj.out.block b (row_lt HR4.out hb)
            cases A4 with
            | none => exfalso; have := (HN4.out rfl).1; have := hm4.out; omega
            | some a4 =>
              obtain ⟨b4, rfl, _⟩ := HS4.out a4 rfl
              have e4 := own_cell hrj j (.int .i64 x) (by rw [List.getElem?_map, hx.out]; rfl)
              have j0 : (0 : Int) ≤ (j : Int) := by omega
              have j1 : (j : Int) < (m4 : Int) := by omega
              have hkn : (e.kids.length : Int) ≤ 1000 := by have := HI.out.kidsN _ _ he.out; omega
              have hkn0 : (0 : Int) ≤ (e.kids.length : Int) := by omega
              clear hrj
              have hil := HI.out.items_len he.out
              have HIL := Lib.hid hil
              have hsn := kidSum_snoc hx.out he.out
              rw [hn.out] at hsn
              have HSN := Lib.hid hsn
              clear hil hsn
              go_wp2_with fail
              refine (Get_in htj.out he.out).mono ?_
              rintro e5 w5 ⟨A5, c5, rfl, _, hb5⟩
              have HT5 := Lib.hid (htj.out.below hb5)
              have HB5 : Hid (Below w4.heap.size w4 w5) := hbj.out.trans (hb5.mono hbj.out.size)
              clear hb5
              obtain ⟨W6, hW6⟩ : ∃ W6, Hid (W6 = w5.alloc (.cells (nodeR x e (.slice A5 e.d.attrs.length c5)) 40)) := ⟨_, rfl⟩
              have hb6 : Below w5.heap.size w5 W6 := by rw [hW6.out]; exact (Below.refl _ w5).alloc (Nat.le_refl _) _
              have hx6 : W6.heap[w5.heap.size]? = some (.cells (nodeR x e (.slice A5 e.d.attrs.length c5)) 40 (0, 0)) := by rw [hW6.out]; exact heap_alloc_new w5 _
              have hz6 : Hid (w5.heap.size < W6.heap.size) := by show _ < _; rw [hW6.out]; simp
              have HT6 := Lib.hid (HT5.out.below hb6)
              have HB6 : Hid (Below w4.heap.size w4 W6) := HB5.out.trans (hb6.mono HB5.out.size)
              have f3 : W6.cell? ⟨w5.heap.size, 3, none⟩ = some (.int .i64 (e.kids.length : Int)) := cell_row hx6 3 _ rfl
              have HX6 := Lib.hid hx6
              have hW6' := hW6.out
              unfold nodeR strV at hW6'
              replace hW6 := Lib.hid hW6'
              rw [hW6'] at f3
              clear hb6 hx6 hW6'
              unfold nodeR strV
              go_wp2_with fail
              rw [← hW6.out]
              refine (Kid_past HT6.out he.out).mono ?_
              rintro e7 w' ⟨rfl, rfl⟩
              clear f3
              go_wp2_with fail
              have HTD : Hid (TreeM M (w.heap.size + 1) f next W6.drew) := HT6.out.below ⟨rfl, rfl, rfl, Nat.le_refl _, fun _ _ => rfl⟩
              have hwr : IntKind.i64.wrap (1 + (e.kids.length : Int)) = 1 + (e.kids.length : Int) := IntWalk.i64_in _ (by omega)
              refine wp_region_held_drew (S := fun V => V.cell? ⟨w5.heap.size, 3, none⟩ = some (.int .i64 (e.kids.length : Int))) (by kernel_rfl) (cell_row HX6.out 3 _ rfl) (fun hHeld => ?_)
              refine tks (oi := ⟨_, _, _, _, _, _⟩) (v := ?_) 0 rfl (.inl ⟨by rfl, ?_⟩) ?_; rotate_left
              · (intro wS hSw; (try dsimp only at hSw); go_simp); all_goals with_reducible rfl
              try go_frame
              refine tks (oi := ⟨_, _, _, _, _, _⟩) (v := ?_) 1 rfl (.inl ⟨by rfl, ?_⟩) ?_; rotate_left
              · (intro wS hSw; (try dsimp only at hSw); go_simp); all_goals with_reducible rfl
              try go_frame
              refine tks (oi := ⟨_, _, _, _, _, _⟩) (v := ?_) 2 rfl (.inl ⟨by rfl, ?_⟩) ?_; rotate_left
              · (intro wS hSw; (try dsimp only at hSw); go_simp); all_goals with_reducible rfl
              try go_frame
              refine tks (oi := ⟨_, _, _, _, _, _⟩) (v := ?_) 3 rfl (.inl ⟨by rfl, ?_⟩) ?_; rotate_left
              · (intro wS hSw; (try dsimp only at hSw); go_simp); all_goals with_reducible rfl
              try go_frame
              refine tks (oi := ⟨_, _, _, _, _, _⟩) (v := ?_) 6 rfl (.inl ⟨by rfl, ?_⟩) ?_; rotate_left
              · (intro wS hSw; (try dsimp only at hSw); go_simp); all_goals with_reducible rfl
              try go_frame
              refine tks (oi := ⟨_, _, _, _, _, _⟩) (v := ?_) 7 rfl (.inl ⟨by rfl, ?_⟩) ?_; rotate_left
              · (intro wS hSw; (try dsimp only at hSw); go_simp); all_goals with_reducible rfl
              try go_frame
              refine tks (oi := ⟨_, _, _, _, _, _⟩) (v := ?_) 8 rfl (.inl ⟨by rfl, ?_⟩) ?_; rotate_left
              · (intro wS hSw; (try dsimp only at hSw); go_simp); all_goals with_reducible rfl
              try go_frame
              refine wpAnyH_ready (rs := [4]) (by kernel_rfl) (by simp) ?_
              refine AllReadyH.cons (o := ⟨_, _, _, _, _, _⟩) rfl (fun K hK => ?_) AllReadyH.nil
              go_simp
              refine (Items_in HTD.out (HI.out.wf _ _ he.out)).mono ?_
              rintro e8 w8 ⟨A8, c8, S8, rfl, hS8, _, _, hb8⟩
              have hl8 : S8.length = (itemsAt (f.flat 0) x).length := by rw [← hS8, List.length_map]
              obtain ⟨n8, hn8⟩ : ∃ n8, Hid (S8.length = n8) := ⟨_, rfl⟩
              have hn8' : Hid (n8 = (itemsAt (f.flat 0) x).length) := by show _ = _; rw [← hn8.out]; exact hl8
              have g1 : (1 : Int) + (e.kids.length : Int) ≤ (n8 : Int) := by have := HIL.out.1; rw [← hn8'.out] at this; omega
              have g2 : (n8 : Int) ≤ 1000 := by have := HIL.out.2; rw [← hn8'.out] at this; omega
              have g3 : decide ((n8 : Int) < 1 + (e.kids.length : Int)) = false := decide_eq_false (by omega)
              rw [hn8.out]
              have f8 : w8.cell? ⟨w5.heap.size, 3, none⟩ = some (.int .i64 (e.kids.length : Int)) := cell_row ((hb8.block _ (by exact hz6.out)).trans HX6.out) 3 _ rfl
              have HB8 : Hid (Below w4.heap.size w4 w8) := HB6.out.trans (Below.trans (b := W6.drew) ⟨rfl, rfl, rfl, Nat.le_refl _, fun _ _ => rfl⟩ (hb8.mono (by show _ ≤ W6.heap.size; exact HB6.out.size)))
              have HT8 := Lib.hid (HTD.out.below hb8)
              clear hS8 hb8 hl8
              go_wp2_with fail
              refine hK.out _ _ (f8) (fun hHeld => ?_)
              clear hK K
              try go_frame
              refine tks (oi := ⟨_, _, _, _, _, _⟩) (v := ?_) 5 rfl (.inl ⟨by rfl, ?_⟩) ?_; rotate_left
              · (intro wS hSw; (try dsimp only at hSw); go_simp); all_goals with_reducible rfl
              try go_frame
              refine tks (oi := ⟨_, _, _, _, _, _⟩) (v := ?_) 9 rfl (.inl ⟨by rfl, ?_⟩) ?_; rotate_left
              · (intro wS hSw; (try dsimp only at hSw); go_simp); all_goals with_reducible rfl
              try go_frame
              refine tks (oi := ⟨_, _, _, _, _, _⟩) (v := ?_) 10 rfl (.inl ⟨by rfl, ?_⟩) ?_; rotate_left
              · (intro wS hSw; (try dsimp only at hSw); go_simp); all_goals with_reducible rfl
              try go_frame
              refine wpAnyH_done (by kernel_rfl) ?_ _
              clear hHeld hwr f8
              go_wp2_with fail
              go_roundw
              case rel => exact ⟨j + 1, n + e.kids.length, by go_num, by omega, by go_num, HSN.out, HT8.out, HB8.out⟩
              case measure => simp [intOf]; omega
          · have j1 : ¬ (j : Int) < (m4 : Int) := by omega
            have hall : n + f.roots.length = f.cnt := by
              have h1 := HI.out.kids_all
              have h2 := hn.out
              rw [List.take_of_length_le (by have := hm4.out; omega)] at h2
              rw [h2] at h1
              exact h1
            rw [HI.out.roots_one] at hall
            have HALL := Lib.hid hall
            clear hall
            go_wp2_with fail
            refine (alive_any wr).mono ?_
            rintro e6 w6 ⟨rfl, hb6⟩
            have HT6 := Lib.hid (htj.out.below hb6)
            have HB6 : Hid (Below w.heap.size w w6) := HB4.out.trans ((hbj.out.trans (hb6.mono hbj.out.size)).mono HB4.out.size)
            clear hb6
            go_wp2_with fail
            refine (Len_in HT6.out).mono ?_
            rintro e7 w' ⟨rfl, rfl⟩
            by_cases hc : f.cnt = 0
            · have c0 : ((f.cnt : Int) == 0) = true := by simp; omega
              clear hc
              go_wp2_with fail
              refine (Root_in HT6.out).mono ?_
              rintro e7 w' ⟨rfl, rfl⟩
              go_wp2_with fail
              refine (Items_in HT6.out HI.out.root_wf).mono ?_
              rintro e8 w8 ⟨A8, c8, S8, rfl, hS8, _, _, hb8⟩
              have hl8 : S8.length = f.cnt := by rw [← HI.out.root_len, ← hS8, List.length_map]
              have HT8 := Lib.hid (HT6.out.below hb8)
              have HB8 : Hid (Below w.heap.size w w8) := HB6.out.trans (hb8.mono HB6.out.size)
              rw [hl8]
              clear hS8 hb8 hl8
              go_wp2_with fail
              refine (Len_in HT8.out).mono ?_
              rintro e9 w' ⟨rfl, rfl⟩
              go_wp2_with fail
              go_ret
              exact ⟨rfl, HB8.out⟩
            · have c0 : ((f.cnt : Int) == 0) = false := by simp; omega
              have hn1 : n + 1 = f.cnt := by have := HALL.out; rw [if_neg hc] at this; exact this
              have c1 : ((n : Int) == (f.cnt : Int) - 1) = true := by simp; omega
              clear hc hn1
              go_wp2_with fail
              refine (Len_in HT6.out).mono ?_
              rintro e7 w' ⟨rfl, rfl⟩
              go_wp2_with fail
              refine (Root_in HT6.out).mono ?_
              rintro e7 w' ⟨rfl, rfl⟩
              go_wp2_with fail
              refine (Items_in HT6.out HI.out.root_wf).mono ?_
              rintro e8 w8 ⟨A8, c8, S8, rfl, hS8, _, _, hb8⟩
              have hl8 : S8.length = f.cnt := by rw [← HI.out.root_len, ← hS8, List.length_map]
              have HT8 := Lib.hid (HT6.out.below hb8)
              have HB8 : Hid (Below w.heap.size w w8) := HB6.out.trans (hb8.mono HB6.out.size)
              rw [hl8]
              clear hS8 hb8 hl8
              go_wp2_with fail
              refine (Len_in HT8.out).mono ?_
              rintro e9 w' ⟨rfl, rfl⟩
              go_wp2_with fail
              go_ret
              exact ⟨rfl, HB8.out⟩
end Go.Proofs.Ytmkgajdgnmolkaa

/-
  Trees: what stands below the root is a document: plain.
-/
namespace Go.Proofs.Ytmkgajdgnmolkaa
open Go.RowKit Go.Shelf

theorem name_len {x : List UInt8} (h : nameL x = true) : x.length ≤ 60 := by
  unfold nameL at h
  split at h
  · simp only [Bool.and_eq_true, decide_eq_true_eq] at h
    exact h.1
  · cases h
theorem chars_len {x : List UInt8} (h : charsE x = 0) : x.length ≤ 1500 := by
  unfold charsE at h
  split at h
  · cases h
  · split at h
    · cases h
    · omega
theorem parts_fit {x : ItemD} (h : partsE x = 0) (hl : 0 ≤ x.level ∧ x.level < 40) : SmallItem x := by
  have hk : x.kind = 1 ∨ x.kind = 2 := by
    unfold partsE at h
    split at h
    · rename_i h1; exact .inr h1.1
    · split at h
      · cases h
      · rename_i h1
        left
        exact Decidable.byContradiction fun h2 => h1 (.inl h2)
  rcases hk with hk | hk
  · obtain ⟨p1, p2, p3, p4, p5, p6⟩ := (parts_elem hk).1 h
    refine ⟨by have := name_len p2; omega, by rw [p1]; simp, by omega, fun k a ha => ?_, by omega, by omega⟩
    have hm := List.mem_of_getElem? ha
    exact ⟨by have := name_len (p4 a hm); omega, by have := chars_len (p6 a hm); omega⟩
  · obtain ⟨p1, p2, p3⟩ := (parts_text hk).1 h
    refine ⟨by rw [p1]; simp, by have := chars_len p3; omega, by rw [p2]; simp, fun k a ha => ?_, by omega, by omega⟩
    rw [p2] at ha; simp at ha
section
variable {M : Nat → Prop} {t : Nat} {f : Fo} {next : Int} {w w' : World}
theorem InvF.small (h : InvF f next) : SmallItems ((f.flat 0).map (·.x)) := by
  refine ⟨by rw [List.length_map, Fo.flat_len]; have := h.cnt; omega, fun k x hx => ?_⟩
  rw [List.getElem?_map] at hx
  obtain ⟨r, hr, rfl⟩ := Option.map_eq_some_iff.1 hx
  have hm := List.mem_of_getElem? hr
  obtain ⟨h1, h2⟩ := h.ok r hm
  exact parts_fit h2 ⟨Fo.flat_ge f 0 r hm, h1⟩
theorem InvF.check (h : InvF f next) (hc : f.cnt ≠ 0) : (checkL ((f.flat 0).map (·.x))).2 = 0 := by
  rw [check_ok]
  cases f with
  | nil => exact absurd rfl hc
  | cons id d ks r =>
    obtain ⟨rfl, hk⟩ := h.one id d ks r rfl
    have hcn := h.cnt
    refine ⟨d.at 0, ((ks.flat 1).map (·.x)), by simp [Fo.flat], rfl, hk, flat_steps _ 0 h.leaf, fun z hz => ?_, fun z hz => ?_, ?_⟩
    · obtain ⟨r, hr, rfl⟩ := List.mem_map.1 hz
      exact Fo.flat_ge ks 1 r hr
    · obtain ⟨r, hr, rfl⟩ := List.mem_map.1 hz
      exact h.ok r hr
    · rw [List.length_map, Fo.flat_len]; exact hcn
/-- a node's parent, and its parent's kids -/
def ParK (f : Fo) (e : Ent) (id : Int) (K : List Int) : Prop := (e.par = 0 ∧ id = rootF f ∧ K = []) ∨ (e.par ≠ 0 ∧ id ≠ rootF f ∧ ∃ pe, f.ent 0 e.par = some pe ∧ K = pe.kids ∧ K.count id = 1)
theorem InvF.parK (h : InvF f next) {id : Int} {e : Ent} (he : f.ent 0 id = some e) : ∃ K, ParK f e id K ∧ K.length ≤ 1000 := by
  rcases h.rootOf he with ⟨h1, h2⟩ | ⟨h1, h2, _, pe, h3, h4, h5⟩
  · exact ⟨[], .inl ⟨h2, h1, rfl⟩, by simp⟩
  · exact ⟨pe.kids, .inr ⟨h2, h1, pe, h3, rfl, List.Nodup.count h5 ▸ by rw [if_pos h4]⟩, h.kidsN _ _ h3⟩
theorem Get_par (h : TreeM M t f next w) {id : Int} {e : Ent} {K : List Int} (hK : ParK f e id K) : Calls Try.prog 16 #[.pointer (some ⟨t, 0, none⟩), .int .i64 e.par] w fun er w' =>
    ∃ (a0 a1 a2 : Int) (s4 s5 : List UInt8) (A : Option Addr) (n c : Nat) (b : Bool), er = .returned (.tuple #[.agg #[.int .i64 a0, .int .i64 a1, .int .i64 a2, .int .i64 (K.length : Int), .string ⟨s4.toArray⟩, .string ⟨s5.toArray⟩, .slice A n c], .bool b]) ∧ Below w.heap.size w w' := by
  rcases hK with ⟨h1, h2, rfl⟩ | ⟨h1, h2, pe, h3, rfl, _⟩
  · rw [h1]
    refine (Get_out h ⟨by decide, by decide⟩ (Fo.ent_not f 0 0 h.inv.q0)).mono ?_
    rintro er w' ⟨rfl, hb⟩
    exact ⟨0, 0, 0, [], [], none, 0, 0, false, rfl, hb⟩
  · refine (Get_in h h3).mono ?_
    rintro er w' ⟨A, c, rfl, _, hb⟩
    exact ⟨_, _, _, _, _, A, _, c, true, rfl, hb⟩
end
end Go.Proofs.Ytmkgajdgnmolkaa
