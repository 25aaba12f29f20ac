/-
  Texts of this claim, joined (by a program of the claim's author): GOpsC, GRdF, GOpP, GDoes, GAlive, GFew, GIn, GRows, GROw, GRNm, GRPa, GRLa, Res, GRLb.
-/
import Derived.Test.YtmkgajdgnmolkaaGreatR8
import Derived.Test.YtmkgajdgnmolkaaGreatR2
import Derived.Test.YtmkgajdgnmolkaaGreatR5
import Derived.Test.YtmkgajdgnmolkaaGreatR1
import Derived.Test.YtmkgajdgnmolkaaGreatR4
import Derived.Test.YtmkgajdgnmolkaaGreatR3
import Derived.Test.YtmkgajdgnmolkaaGreatR7
import Derived.Laws.Rows
import Derived.Deep.Cut
namespace Go.Proofs.YtmkgajdgnmolkaaGreat
set_option maxRecDepth 100000
set_option maxHeartbeats 16000000
section
open Go.RowKit Go.Shelf
section
variable {w : World} {t mb : Nat} {y : Lay} {f : Fo} {next : Int}
theorem set_tp (hi : InvF f next) {id lv : Int} {e : Ent} {ks : Fo} {A B : List RowD} (he : f.ent 0 id = some e) (hs : Stand f id lv e.d ks A B) (u : NodeD → NodeD) (hk : ∀ d, (u d).kind = d.kind) (hok : partsE ((u e.d).at lv) = 0) {w' : World}
  (htp : TP t mb y (f.ent 0) w (fset (f.ent 0) id (some { e with d := u e.d })) (rootF f) next f.cnt w') : DoP t mb y f w (setL (f.flat 0) A.length u, next, 0, 0) w' := by
 obtain ⟨s1, s2, s3, s4, q', s5, s6⟩ := set_step hi hs u hk hok
 rw [he] at s5
 injection s5 with s5
 refine ⟨f.setD id u, s2.symm, s1, ?_⟩
 rw [s3, s4, s6]
 rw [s5] at htp
 exact htp
theorem SetText_F (h : TreeAt w t mb y (f.ent 0) (rootF f) next f.cnt) (hi : InvF f next) {id : Int} (hw : wfI id) (s : List UInt8) (hs : s.length ≤ maxLen) :
  Calls Tryz.prog 44 #[.pointer (some ⟨t, 0, none⟩), .int .i64 id, strV s] w (DoE t mb y f w (setTextL (f.flat 0) next id s)) := by
 refine (SetText_any h hw s hs).mono ?_
 rintro er w' ⟨rfl, htp⟩
 unfold setTextL
 unfold setTextG at htp ⊢
 cases he : f.ent 0 id with
 | none =>
  rw [find_ent he]
  rw [he] at htp
  exact ⟨rfl, rfl, f, rfl, hi, htp⟩
 | some e =>
  obtain ⟨lv, ks, A1, B1, hst, hkids, _, hlv, hparts, _⟩ := hi.stand he
  rw [hst.find]
  simp only [hst.get]
  rw [he] at htp
  simp only at htp ⊢
  rw [show (e.d.at lv).kind = e.d.kind from rfl]
  by_cases hk : e.d.kind ≠ 2
  ·rw [if_pos hk, if_pos hk]
   rw [if_pos hk] at htp
   exact ⟨rfl, rfl, f, rfl, hi, htp⟩
  ·rw [if_neg hk, if_neg hk]
   rw [if_neg hk] at htp
   have hte : textE s = charsE s := rfl
   rw [hte] at htp ⊢
   by_cases hc : charsE s ≠ 0
   ·rw [if_pos hc, if_pos hc]
    rw [if_pos hc] at htp
    exact ⟨rfl, rfl, f, rfl, hi, htp⟩
   ·rw [if_neg hc, if_neg hc]
    rw [if_neg hc] at htp
    have hk2 : (e.d.at lv).kind = 2 := Decidable.byContradiction hk
    obtain ⟨p1, p2, p3⟩ := (parts_text hk2).1 hparts
    refine ⟨rfl, rfl, set_tp hi he hst (fun d => { d with text := s }) (fun _ => rfl) ?_ htp⟩
    exact (parts_text (x := ({ e.d with text := s } : NodeD).at lv) hk2).2 ⟨p1, p2, Decidable.byContradiction hc⟩
theorem SetAttr_F (h : TreeAt w t mb y (f.ent 0) (rootF f) next f.cnt) (hi : InvF f next) {id : Int} (hw : wfI id) (name value : List UInt8) (hn : name.length ≤ maxLen) (hv : value.length ≤ maxLen) :
  Calls Tryz.prog 42 #[.pointer (some ⟨t, 0, none⟩), .int .i64 id, strV name, strV value] w (DoE t mb y f w (setAttrL (f.flat 0) next id name value)) := by
 refine (SetAttr_any h hw name value hn hv (fun id e he => by have := hi.attrs id e he; omega)).mono ?_
 rintro er w' ⟨k, hfind, rfl, htp⟩
 unfold setAttrL
 unfold setAttrG at htp ⊢
 cases he : f.ent 0 id with
 | none =>
  rw [find_ent he]
  rw [he] at htp
  exact ⟨rfl, rfl, f, rfl, hi, htp⟩
 | some e =>
  obtain ⟨lv, ks, A1, B1, hst, hkids, _, hlv, hparts, _⟩ := hi.stand he
  rw [hst.find]
  simp only [hst.get]
  rw [he] at htp
  simp only at htp ⊢
  rw [show (e.d.at lv).kind = e.d.kind from rfl]
  by_cases hk : e.d.kind ≠ 1
  ·rw [if_pos hk, if_pos hk]
   rw [if_pos hk] at htp
   exact ⟨rfl, rfl, f, rfl, hi, htp⟩
  rw [if_neg hk, if_neg hk]
  rw [if_neg hk] at htp
  by_cases hnm : nameL name = false
  ·rw [if_pos hnm, if_pos hnm]
   rw [if_pos hnm] at htp
   exact ⟨rfl, rfl, f, rfl, hi, htp⟩
  rw [if_neg hnm, if_neg hnm]
  rw [if_neg hnm] at htp
  have hte : textE value = charsE value := rfl
  rw [hte] at htp ⊢
  by_cases hc : charsE value ≠ 0
  ·rw [if_pos hc, if_pos hc]
   rw [if_pos hc] at htp
   exact ⟨rfl, rfl, f, rfl, hi, htp⟩
  rw [if_neg hc, if_neg hc]
  rw [if_neg hc] at htp
  have hk1 : (e.d.at lv).kind = 1 := Decidable.byContradiction hk
  obtain ⟨p1, p2, p3, p4, p5, p6⟩ := (parts_elem hk1).1 hparts
  have p3' : RiseG e.d.attrs := p3
  have hfa := hfind e he hk1
  obtain ⟨r1, r2⟩ := with_rise (value := value) p3' hfa
  have hok : (withA e.d.attrs ⟨name, value⟩).length ≤ 20 → partsE (({ e.d with attrs := withA e.d.attrs ⟨name, value⟩ } : NodeD).at lv) = 0 := fun h20 => by
   refine (parts_elem (x := ({ e.d with attrs := withA e.d.attrs ⟨name, value⟩ } : NodeD).at lv) hk1).2 ⟨p1, p2, r1, fun a ha => ?_, h20, fun a ha => ?_⟩
   ·rcases r2 a ha with rfl | ha
    ·simpa using hnm
    ·exact p4 a ha
   ·rcases r2 a ha with rfl | ha
    ·simpa using hc
    ·exact p6 a ha
  have hat : (e.d.at lv).attrs = e.d.attrs := rfl
  have p5' : e.d.attrs.length ≤ 20 := p5
  rw [hat]
  cases hfd : foundB e.d.attrs name k with
  | true =>
   obtain ⟨w1, w2, w3⟩ := with_found (value := value) p3' hfa hfd
   rw [hfd, if_pos rfl] at htp
   have hl : ¬ (20 < (withA e.d.attrs ⟨name, value⟩).length) := by rw [w1, List.length_set]; omega
   rw [if_neg hl, if_pos rfl]
   refine ⟨rfl, rfl, set_tp hi he hst (fun d => { d with attrs := withA d.attrs ⟨name, value⟩ }) (fun _ => rfl) (hok (by omega)) ?_⟩
   rw [← w1] at htp
   exact htp
  | false =>
   obtain ⟨w1, w2⟩ := with_new (value := value) p3' hfa hfd
   have hkl := hfa.1
   have hwl : (withA e.d.attrs ⟨name, value⟩).length = e.d.attrs.length + 1 := by rw [w1]; simp; omega
   rw [hfd, if_neg (by decide)] at htp
   rw [if_neg (show ¬ (false = true) by decide)]
   by_cases h20 : 20 ≤ e.d.attrs.length
   ·rw [if_pos h20, if_pos (show 20 < (withA e.d.attrs ⟨name, value⟩).length by omega)]
    rw [if_pos h20] at htp
    exact ⟨rfl, rfl, f, rfl, hi, htp⟩
   ·rw [if_neg h20, if_neg (show ¬ 20 < (withA e.d.attrs ⟨name, value⟩).length by omega)]
    rw [if_neg h20] at htp
    refine ⟨rfl, rfl, set_tp hi he hst (fun d => { d with attrs := withA d.attrs ⟨name, value⟩ }) (fun _ => rfl) (hok (by omega)) ?_⟩
    rw [← w1] at htp
    exact htp
theorem DelAttr_F (h : TreeAt w t mb y (f.ent 0) (rootF f) next f.cnt) (hi : InvF f next) {id : Int} (hw : wfI id) (name : List UInt8) :
  Calls Tryz.prog 43 #[.pointer (some ⟨t, 0, none⟩), .int .i64 id, strV name] w (DoE t mb y f w (delAttrL (f.flat 0) next id name)) := by
 refine (DelAttr_any h hw name (fun id e he => by have := hi.attrs id e he; omega)).mono ?_
 rintro er w' ⟨k, hfind, rfl, htp⟩
 unfold delAttrL
 unfold delAttrG at htp ⊢
 cases he : f.ent 0 id with
 | none =>
  rw [find_ent he]
  rw [he] at htp
  exact ⟨rfl, rfl, f, rfl, hi, htp⟩
 | some e =>
  obtain ⟨lv, ks, A1, B1, hst, hkids, _, hlv, hparts, _⟩ := hi.stand he
  rw [hst.find]
  simp only [hst.get]
  rw [he] at htp
  simp only at htp ⊢
  rw [show (e.d.at lv).kind = e.d.kind from rfl]
  by_cases hk : e.d.kind ≠ 1
  ·rw [if_pos hk, if_pos hk]
   rw [if_pos hk] at htp
   exact ⟨rfl, rfl, f, rfl, hi, htp⟩
  rw [if_neg hk, if_neg hk]
  rw [if_neg hk] at htp
  have hk1 : (e.d.at lv).kind = 1 := Decidable.byContradiction hk
  obtain ⟨p1, p2, p3, p4, p5, p6⟩ := (parts_elem hk1).1 hparts
  have p3' : RiseG e.d.attrs := p3
  have hfa := hfind e he hk1
  obtain ⟨r1, r2, r3⟩ := less_rise p3' name
  have hat : (e.d.at lv).attrs = e.d.attrs := rfl
  have p5' : e.d.attrs.length ≤ 20 := p5
  rw [hat]
  cases hfd : foundB e.d.attrs name k with
  | true =>
   obtain ⟨w1, w2, w3⟩ := with_found (value := []) p3' hfa hfd
   rw [hfd, if_pos rfl] at htp
   rw [if_pos rfl, if_neg (by rw [w2]; omega)]
   refine ⟨rfl, rfl, set_tp hi he hst (fun d => { d with attrs := lessA d.attrs name }) (fun _ => rfl) ?_ ?_⟩
   ·exact (parts_elem (x := ({ e.d with attrs := lessA e.d.attrs name } : NodeD).at lv) hk1).2 ⟨p1, p2, r1, fun a ha => p4 a (r2 a ha), by show (lessA e.d.attrs name).length ≤ 20; omega, fun a ha => p6 a (r2 a ha)⟩
   ·rw [← w2] at htp
    exact htp
  | false =>
   obtain ⟨w1, w2⟩ := with_new (value := []) p3' hfa hfd
   rw [hfd, if_neg (by decide)] at htp
   rw [if_neg (show ¬ (false = true) by decide), if_pos (show (lessA e.d.attrs name).length = e.d.attrs.length by rw [w2])]
   exact ⟨rfl, rfl, f, rfl, hi, htp⟩
end
end
section
open Go.RowKit Go.Shelf
def itemsAt (L : List RowD) (id : Int) : List ItemD := match findL L id with
 | some k => itemsL L k
 | none => []
theorem item_row {g : Int → Option Ent} : ∀ (F : Fo) (q lv : Int), Agr g q F → ∀ r ∈ F.flat lv, itemG g (r.id, r.x.level) = r.x
 | .nil, _, _, _, r, h => by cases h
 | .cons id d ks r, q, lv, ⟨a1, a2, a3⟩, z, h => by
  rw [Fo.flat] at h
  rcases List.mem_cons.1 h with rfl | h
  ·unfold itemG
   simp only [a1]
   rfl
  rcases List.mem_append.1 h with h | h
  ·exact item_row ks id (lv + 1) a2 z h
  ·exact item_row r q lv a3 z h
theorem items_stand {f : Fo} {p lv : Int} {d : NodeD} {ks : Fo} {A B : List RowD} (hs : Stand f p lv d ks A B) : itemsAt (f.flat 0) p = ((Fo.cons p d ks .nil).flat 0).map (·.x) := by
 unfold itemsAt
 rw [hs.find]
 show itemsL _ _ = _
 unfold itemsL
 rw [hs.part, hs.lvl]
 have := Fo.flat_shift (.cons p d ks .nil) lv lv
 rw [Int.sub_self] at this
 rw [← this]
 unfold partL
 simp [Fo.flat]
theorem items_vis {g : Int → Option Ent} {q p : Int} {d : NodeD} {ks : Fo} (ha : Agr g q (.cons p d ks .nil)) : (visT 0 (p, d, ks)).map (itemG g) = ((Fo.cons p d ks .nil).flat 0).map (·.x) := by
 rw [visT_flat, List.map_map]
 exact List.map_congr_left fun r hr => item_row _ q 0 ha r hr
section
variable {w : World} {t mb : Nat} {y : Lay} {f : Fo} {next : Int}
theorem agr_at (hi : InvF f next) {id lv : Int} {e : Ent} {ks : Fo} {A B : List RowD} (he : f.ent 0 id = some e) (hs : Stand f id lv e.d ks A B) (hk : e.kids = ks.roots) : Agr (f.ent 0) e.par (.cons id e.d ks .nil) := by
 have hks := Fo.sub_ent f id 0 0 lv e.d ks hi.nd hs.sub
 exact ⟨by rw [he, ← hk], Fo.agr_of ks id _ hks.2.2.1 hks.2.1, trivial⟩
theorem Order_F (h : TreeAt w t mb y (f.ent 0) (rootF f) next f.cnt) (hi : InvF f next) :
  Calls Tryz.prog 20 #[.pointer (some ⟨t, 0, none⟩)] w fun e w' => ∃ v, e = .returned v ∧ intRow w' v f.ids ∧ Below w.heap.size w w' ∧ ∀ b, v.ownBlock = some b → w.heap.size ≤ b := by
 have hcn := hi.cnt
 cases f with
 | nil => exact Order_g [] (by simp) w h fun w' bt bi bl ht h1 h2 _ => none_iter 0 ⟨by omega, by omega⟩ rfl w' bt bi bl ht h1 h2
 | cons id d ks r =>
  obtain ⟨rfl, _⟩ := hi.one id d ks r rfl
  have hag := Fo.agr_ent (.cons id d ks .nil) 0 hi.nd
  have hc : ks.cnt ≤ 1000 := by simp only [Fo.cnt] at hcn; omega
  have := Order_g (visT 0 (id, d, ks)) (by rw [visT_len]; omega) w h (iter_of hi.wf hag (by omega) y)
  rw [visT_ids] at this
  rw [show (Fo.cons id d ks .nil).ids = id :: ks.ids by simp [Fo.ids]]
  exact this
theorem Items_F (h : TreeAt w t mb y (f.ent 0) (rootF f) next f.cnt) (hi : InvF f next) {id : Int} (hw : wfI id) :
  Calls Tryz.prog 22 #[.pointer (some ⟨t, 0, none⟩), .int .i64 id] w fun e w' => ∃ A c S, e = .returned (.slice A S.length c) ∧ S.map (·.1) = itemsAt (f.flat 0) id ∧ ItemsOwn w' w.heap.size A c S ∧
   (∀ s ∈ S, AttrsOwn w' w.heap.size s.2.1 s.2.2 s.1.attrs) ∧ Below w.heap.size w w' := by
 have hcn := hi.cnt
 have hal : ∀ id e, f.ent 0 id = some e → e.d.attrs.length ≤ 1000000000 := fun id e he => by have := hi.attrs id e he; omega
 cases he : f.ent 0 id with
 | none =>
  have : itemsAt (f.flat 0) id = ([] : List (Int × Int)).map (itemG (f.ent 0)) := by unfold itemsAt; rw [find_ent he]; rfl
  rw [this]
  exact Items_g id [] (by simp) w h (fun w' bt bi bl ht h1 h2 _ => none_iter id hw he w' bt bi bl ht h1 h2) (by simp) hi.wf hal
 | some e =>
  obtain ⟨lv, ks, A1, B1, hst, hkids, _⟩ := hi.stand he
  have hag := agr_at hi he hst hkids
  have hks := Fo.sub_ent f id 0 0 lv e.d ks hi.nd hst.sub
  rw [items_stand hst, ← items_vis hag]
  refine Items_g id _ (by rw [visT_len]; have := hks.2.2.2.2.2.1; omega) w h (iter_of hi.wf hag (by have := hks.2.2.2.2.2.1; omega) y) (fun x hx => ?_) hi.wf hal
  have hx' : x.1 ∈ id :: ks.ids := by rw [← visT_ids id e.d ks 0]; exact List.mem_map_of_mem hx
  refine Fo.ent_some f 0 x.1 ?_
  rcases List.mem_cons.1 hx' with h1 | h1
  ·rw [h1]; exact hst.mem
  ·exact hks.2.2.2.2.1 _ h1
end
/-! ## What the calls do to ids -/
def IdsP (L : List RowD) (next : Int) (o : OpD) (a : Ans) : Prop := a.2.1 = next + (if a.2.2.2 = 0 ∧ (o.kind = 0 ∨ o.kind = 1) then (o.l.length : Int) else 0) ∧ (a.2.2.2 = 0 → (o.kind = 0 ∨ o.kind = 1) → a.2.2.1 = next) ∧ (a.2.2.2 ≠ 0 → a = (L, next, 0, a.2.2.2))
theorem IdsP.no {L : List RowD} {next : Int} {o : OpD} (e : Int) (he : e ≠ 0) : IdsP L next o (L, next, 0, e) := by
 refine ⟨?_, fun h => absurd h he, fun _ => rfl⟩
 rw [if_neg (fun h => he h.1)]
 show next = next + 0
 omega
theorem IdsP.ok {L L' : List RowD} {next : Int} {o : OpD} (h : o.kind ≠ 0 ∧ o.kind ≠ 1) : IdsP L next o (L', next, 0, 0) := by
 refine ⟨?_, fun _ h' => by omega, fun h => absurd rfl h⟩
 rw [if_neg (by omega)]
 show next = next + 0
 omega
theorem IdsP.more {L L' : List RowD} {next : Int} {o : OpD} (h : o.kind = 0 ∨ o.kind = 1) : IdsP L next o (L', next + (o.l.length : Int), next, 0) := by
 refine ⟨?_, fun _ _ => rfl, fun h => absurd rfl h⟩
 rw [if_pos ⟨rfl, h⟩]
theorem do_ids (L : List RowD) (next : Int) (o : OpD) : IdsP L next o (doL L next o) := by
 unfold doL
 by_cases k0 : o.kind = 0
 ·rw [if_pos k0]
  unfold loadL
  by_cases h : (checkL o.l).2 ≠ 0
  ·rw [if_pos h]; exact .no _ h
  rw [if_neg h]
  split
  ·exact .no _ (by decide)
  ·exact .more (.inl k0)
 rw [if_neg k0]
 by_cases k1 : o.kind = 1
 ·rw [if_pos k1]
  unfold insertL
  cases findL L o.id with
  | none => exact .no _ (by decide)
  | some k =>
   simp only
   cases L[k]? with
   | none => exact .no _ (by decide)
   | some r =>
    simp only
    by_cases h1 : r.x.kind ≠ 1
    ·rw [if_pos h1]; exact .no _ (by decide)
    rw [if_neg h1]
    by_cases h2 : o.pl < 0 ∨ ((kidsL L k).length : Int) < o.pl
    ·rw [if_pos h2]; exact .no _ (by decide)
    rw [if_neg h2]
    by_cases h3 : (forestL o.l).2 ≠ 0
    ·rw [if_pos h3]; exact .no _ h3
    rw [if_neg h3]
    by_cases h4 : 40 ≤ r.x.level + 1 + (forestL o.l).1
    ·rw [if_pos h4]; exact .no _ (by decide)
    rw [if_neg h4]
    by_cases h5 : 1000 < L.length + o.l.length ∨ 2147483647 < next + (o.l.length : Int)
    ·rw [if_pos h5]; exact .no _ (by decide)
    rw [if_neg h5]
    exact .more (.inr k1)
 rw [if_neg k1]
 by_cases k2 : o.kind = 2
 ·rw [if_pos k2]
  unfold deleteL
  cases findL L o.id with
  | none => exact .no _ (by decide)
  | some k =>
   simp only
   split
   ·exact .no _ (by decide)
   ·exact .ok ⟨k0, k1⟩
 rw [if_neg k2]
 by_cases k3 : o.kind = 3
 ·rw [if_pos k3]
  unfold moveL
  cases findL L o.id with
  | none => exact .no _ (by decide)
  | some k =>
   cases findL L o.to with
   | none => exact .no _ (by decide)
   | some p =>
    simp only
    by_cases h1 : k = 0
    ·rw [if_pos h1]; exact .no _ (by decide)
    rw [if_neg h1]
    cases L[p]? with
    | none => exact .no _ (by decide)
    | some r =>
     simp only
     by_cases h2 : r.x.kind ≠ 1
     ·rw [if_pos h2]; exact .no _ (by decide)
     rw [if_neg h2]
     by_cases h3 : k ≤ p ∧ p < endL L k
     ·rw [if_pos h3]; exact .no _ (by decide)
     rw [if_neg h3]
     cases findL (withoutL L k) o.to with
     | none => exact .no _ (by decide)
     | some q =>
      simp only
      split
      ·exact .no _ (by decide)
      split
      ·exact .no _ (by decide)
      ·exact .ok ⟨k0, k1⟩
 rw [if_neg k3]
 by_cases k4 : o.kind = 4
 ·rw [if_pos k4]
  unfold setAttrL
  cases findL L o.id with
  | none => exact .no _ (by decide)
  | some k =>
   simp only
   cases L[k]? with
   | none => exact .no _ (by decide)
   | some r =>
    simp only
    by_cases h1 : r.x.kind ≠ 1
    ·rw [if_pos h1]; exact .no _ (by decide)
    rw [if_neg h1]
    by_cases h2 : nameL o.name = false
    ·rw [if_pos h2]; exact .no _ (by decide)
    rw [if_neg h2]
    by_cases h3 : charsE o.text ≠ 0
    ·rw [if_pos h3]; exact .no _ h3
    rw [if_neg h3]
    split
    ·exact .no _ (by decide)
    ·exact .ok ⟨k0, k1⟩
 rw [if_neg k4]
 by_cases k5 : o.kind = 5
 ·rw [if_pos k5]
  unfold delAttrL
  cases findL L o.id with
  | none => exact .no _ (by decide)
  | some k =>
   simp only
   cases L[k]? with
   | none => exact .no _ (by decide)
   | some r =>
    simp only
    by_cases h1 : r.x.kind ≠ 1
    ·rw [if_pos h1]; exact .no _ (by decide)
    rw [if_neg h1]
    split
    ·exact .no _ (by decide)
    ·exact .ok ⟨k0, k1⟩
 rw [if_neg k5]
 by_cases k6 : o.kind = 6
 ·rw [if_pos k6]
  unfold setTextL
  cases findL L o.id with
  | none => exact .no _ (by decide)
  | some k =>
   simp only
   cases L[k]? with
   | none => exact .no _ (by decide)
   | some r =>
    simp only
    by_cases h1 : r.x.kind ≠ 2
    ·rw [if_pos h1]; exact .no _ (by decide)
    rw [if_neg h1]
    by_cases h3 : charsE o.text ≠ 0
    ·rw [if_pos h3]; exact .no _ h3
    rw [if_neg h3]
    exact .ok ⟨k0, k1⟩
 rw [if_neg k6]
 exact .ok ⟨k0, k1⟩
end
section
open Go.RowKit
def opVal (o : OpD) (A : Option Addr) (c : Nat) : Array Value := #[.int .i64 o.kind, .int .i64 o.id, .int .i64 o.to, .int .i64 o.pl, strV o.name, strV o.text, .slice A o.l.length c]
def OpCells (w : World) (ad : Addr) (k : Nat) (o : OpD) (A : Option Addr) (c : Nat) : Prop :=
 w.cell? (ad.add (k * 7)) = some (.int .i64 o.kind) ∧ w.cell? ⟨(ad.add (k * 7)).block, (ad.add (k * 7)).off + 1, none⟩ = some (.int .i64 o.id) ∧ w.cell? ⟨(ad.add (k * 7)).block, (ad.add (k * 7)).off + 2, none⟩ = some (.int .i64 o.to) ∧
 w.cell? ⟨(ad.add (k * 7)).block, (ad.add (k * 7)).off + 3, none⟩ = some (.int .i64 o.pl) ∧ w.cell? ⟨(ad.add (k * 7)).block, (ad.add (k * 7)).off + 4, none⟩ = some (strV o.name) ∧ w.cell? ⟨(ad.add (k * 7)).block, (ad.add (k * 7)).off + 5, none⟩ = some (strV o.text) ∧
 w.cell? ⟨(ad.add (k * 7)).block, (ad.add (k * 7)).off + 6, none⟩ = some (.slice A o.l.length c)
def OpsAt (w : World) (B : Nat) (A : Option Addr) (l : List OpD) : Prop :=
 0 < l.length → ∃ ad, A = some ad ∧ ad.block < B ∧ ∀ k o, l[k]? = some o → ∃ A' c, ItemsAt w B A' o.l ∧ o.l.length ≤ c ∧ OpCells w ad k o A' c
def SmallOp (o : OpD) : Prop := (wfI o.kind ∧ wfI o.id ∧ wfI o.to ∧ wfI o.pl) ∧ o.name.length ≤ 1000000000 ∧ o.text.length ≤ 1000000000 ∧ SmallItems o.l
def SmallOps (l : List OpD) : Prop := l.length ≤ 1048576 ∧ ∀ o ∈ l, SmallOp o ∧ o.l.length ≤ 1048576
variable {w w' : World} {B B' : Nat} {A : Option Addr} {l : List OpD}
theorem OpsAt.keep (h : OpsAt w B A l) (hk : ∀ p : Addr, p.block < B → w'.cell? p = w.cell? p) : OpsAt w' B A l := fun hp => by
 obtain ⟨ad, h1, h2, h3⟩ := h hp
 refine ⟨ad, h1, h2, fun k o ho => ?_⟩
 obtain ⟨A', c, k1, k2, k3, k4, k5, k6, k7, k8, k9⟩ := h3 k o ho
 have hb : (ad.add (k * 7)).block < B := by rw [block_of_add]; exact h2
 exact ⟨A', c, k1.keep hk, k2, (hk _ (by exact hb)).trans k3, (hk _ (by exact hb)).trans k4, (hk _ (by exact hb)).trans k5, (hk _ (by exact hb)).trans k6, (hk _ (by exact hb)).trans k7, (hk _ (by exact hb)).trans k8, (hk _ (by exact hb)).trans k9⟩
theorem OpsAt.more (h : OpsAt w B A l) (hB : B ≤ B') : OpsAt w B' A l := fun hp => by
 obtain ⟨ad, h1, h2, h3⟩ := h hp
 refine ⟨ad, h1, by omega, fun k o ho => ?_⟩
 obtain ⟨A', c, k1, k2⟩ := h3 k o ho
 exact ⟨A', c, k1.more hB, k2⟩
theorem OpsAt.below (h : OpsAt w B A l) (hb : Below B w w') : OpsAt w' B A l := h.keep fun _ hp => hb.cell hp
end
section
open Go.RowKit Go.Shelf
section
variable {w W1 : World} {t mb : Nat} {y : Lay} {f : Fo} {next : Int}
theorem DoP.back {a : Ans} {w' : World} (h : DoP t mb y f W1 a w') (hb : Below w.heap.size w W1) : DoP t mb y f w a w' := by
 obtain ⟨f', h1, h2, mb', y', h3, h4⟩ := h
 exact ⟨f', h1, h2, mb', y', h3, Grows.trans (Grows.of_below hb) h4⟩
theorem does_any (h : TreeAt w t mb y (f.ent 0) (rootF f) next f.cnt) (hi : InvF f next) (o : OpD) (A : Option Addr) (c B : Nat) (hl : StandI (Mine t mb y (f.ent 0)) w B A o.l) (hBw : B ≤ w.heap.size) (hs : SmallOp o) :
  Calls Tryz.prog 16 #[.pointer (some ⟨t, 0, none⟩), .agg (opVal o A c)] w (DoI t mb y f w (doL (f.flat 0) next o)) := by
 obtain ⟨⟨wk, wi, wt, wp⟩, hn, ht, hsi⟩ := hs
 obtain ⟨W1, hW1⟩ : ∃ W1, Hid (W1 = w.alloc (.cells (opVal o A c) 36)) := ⟨_, rfl⟩
 have hb1 : Below w.heap.size w W1 := by rw [hW1.out]; exact (Below.refl _ w).alloc (Nat.le_refl _) _
 have hX1 : W1.heap[w.heap.size]? = some (.cells (opVal o A c) 36 (0, 0)) := by rw [hW1.out]; exact heap_alloc_new w _
 have d0 := cell_row hX1 0 _ rfl
 have d1 := cell_row hX1 1 _ rfl
 have d2 := cell_row hX1 2 _ rfl
 have d3 := cell_row hX1 3 _ rfl
 have d4 := cell_row hX1 4 _ rfl
 have d5 := cell_row hX1 5 _ rfl
 have d6 := cell_row hX1 6 _ rfl
 have H1 := Lib.hid (h.below hb1)
 have HL1 := Lib.hid (hl.grow (Grows.of_below hb1))
 have HBW : Hid (B ≤ W1.heap.size) := Nat.le_trans hBw hb1.size
 have HS := Lib.hid hsi
 have HI := Lib.hid hi
 have HB1 := Lib.hid hb1
 have hn' : o.name.length ≤ maxLen := by unfold maxLen; omega
 have ht' : o.text.length ≤ maxLen := by unfold maxLen; omega
 have HN := Lib.hid hn'
 have HT := Lib.hid ht'
 have hW1' := hW1.out
 unfold opVal at hW1'
 replace hW1 := Lib.hid hW1'
 unfold strV at d4 d5 hW1
 clear h hl hsi hi hb1 hX1 hn ht hn' ht' hBw hW1'
 obtain ⟨ans, hans⟩ : ∃ a, Hid (doL (f.flat 0) next o = a) := ⟨_, rfl⟩
 rw [hans.out]
 unfold opVal strV
 by_cases k0 : o.kind = 0
 ·have e0 : (o.kind == 0) = true := by simpa using k0
  have ha : Hid (ans = loadL (f.flat 0) next o.l) := by show _ = _; rw [← hans.out]; unfold doL; rw [if_pos k0]
  clear k0 hans
  go_enter Tryz.func16, Tryz.ntmps16
  go_wp2_with fail
  rw [← hW1.out]
  refine (Load_F H1.out HI.out o.l A c B HL1.out HBW.out HS.out).mono ?_
  rintro er w' ⟨rfl, hp⟩
  have HP := Lib.hid hp
  clear hp
  go_wp2_with fail
  go_ret2
  rw [ha.out]
  exact ⟨rfl, HP.out.back HB1.out⟩
 have n0 := k0
 have e0 : (o.kind == 0) = false := by simpa using k0
 clear k0
 by_cases k1 : o.kind = 1
 ·have e1 : (o.kind == 1) = true := by simpa using k1
  have ha : Hid (ans = insertL (f.flat 0) next o.id o.pl o.l) := by show _ = _; rw [← hans.out]; unfold doL; rw [if_neg n0]; rw [if_pos k1]
  clear k1 hans n0
  go_enter Tryz.func16, Tryz.ntmps16
  go_wp2_with fail
  rw [← hW1.out]
  refine (Insert_F H1.out HI.out wi o.pl o.l A c B HL1.out HBW.out HS.out).mono ?_
  rintro er w' ⟨rfl, hp⟩
  have HP := Lib.hid hp
  clear hp
  go_wp2_with fail
  go_ret2
  rw [ha.out]
  exact ⟨rfl, HP.out.back HB1.out⟩
 have n1 := k1
 have e1 : (o.kind == 1) = false := by simpa using k1
 clear k1
 by_cases k2 : o.kind = 2
 ·have e2 : (o.kind == 2) = true := by simpa using k2
  have ha : Hid (ans = deleteL (f.flat 0) next o.id) := by show _ = _; rw [← hans.out]; unfold doL; rw [if_neg n0]; rw [if_neg n1]; rw [if_pos k2]
  clear k2 hans n0 n1
  go_enter Tryz.func16, Tryz.ntmps16
  go_wp2_with fail
  rw [← hW1.out]
  refine (Delete_F H1.out HI.out wi).mono ?_
  rintro er w' ⟨h0, rfl, hp⟩
  have H0 := Lib.hid h0
  clear h0
  have HP := Lib.hid hp
  clear hp
  go_wp2_with fail
  go_ret2
  rw [ha.out]
  exact ⟨by rw [H0.out]; rfl, HP.out.back HB1.out⟩
 have n2 := k2
 have e2 : (o.kind == 2) = false := by simpa using k2
 clear k2
 by_cases k3 : o.kind = 3
 ·have e3 : (o.kind == 3) = true := by simpa using k3
  have ha : Hid (ans = moveL (f.flat 0) next o.id o.to o.pl) := by show _ = _; rw [← hans.out]; unfold doL; rw [if_neg n0]; rw [if_neg n1]; rw [if_neg n2]; rw [if_pos k3]
  clear k3 hans n0 n1 n2
  go_enter Tryz.func16, Tryz.ntmps16
  go_wp2_with fail
  rw [← hW1.out]
  refine (Move_F H1.out HI.out wi wt o.pl).mono ?_
  rintro er w' ⟨h0, rfl, hp⟩
  have H0 := Lib.hid h0
  clear h0
  have HP := Lib.hid hp
  clear hp
  go_wp2_with fail
  go_ret2
  rw [ha.out]
  exact ⟨by rw [H0.out]; rfl, HP.out.back HB1.out⟩
 have n3 := k3
 have e3 : (o.kind == 3) = false := by simpa using k3
 clear k3
 by_cases k4 : o.kind = 4
 ·have e4 : (o.kind == 4) = true := by simpa using k4
  have ha : Hid (ans = setAttrL (f.flat 0) next o.id o.name o.text) := by show _ = _; rw [← hans.out]; unfold doL; rw [if_neg n0]; rw [if_neg n1]; rw [if_neg n2]; rw [if_neg n3]; rw [if_pos k4]
  clear k4 hans n0 n1 n2 n3
  go_enter Tryz.func16, Tryz.ntmps16
  go_wp2_with fail
  rw [← hW1.out]
  refine (SetAttr_F H1.out HI.out wi o.name o.text HN.out HT.out).mono ?_
  rintro er w' ⟨h0, rfl, hp⟩
  have H0 := Lib.hid h0
  clear h0
  have HP := Lib.hid hp
  clear hp
  go_wp2_with fail
  go_ret2
  rw [ha.out]
  exact ⟨by rw [H0.out]; rfl, HP.out.back HB1.out⟩
 have n4 := k4
 have e4 : (o.kind == 4) = false := by simpa using k4
 clear k4
 by_cases k5 : o.kind = 5
 ·have e5 : (o.kind == 5) = true := by simpa using k5
  have ha : Hid (ans = delAttrL (f.flat 0) next o.id o.name) := by show _ = _; rw [← hans.out]; unfold doL; rw [if_neg n0]; rw [if_neg n1]; rw [if_neg n2]; rw [if_neg n3]; rw [if_neg n4]; rw [if_pos k5]
  clear k5 hans n0 n1 n2 n3 n4
  go_enter Tryz.func16, Tryz.ntmps16
  go_wp2_with fail
  rw [← hW1.out]
  refine (DelAttr_F H1.out HI.out wi o.name).mono ?_
  rintro er w' ⟨h0, rfl, hp⟩
  have H0 := Lib.hid h0
  clear h0
  have HP := Lib.hid hp
  clear hp
  go_wp2_with fail
  go_ret2
  rw [ha.out]
  exact ⟨by rw [H0.out]; rfl, HP.out.back HB1.out⟩
 have n5 := k5
 have e5 : (o.kind == 5) = false := by simpa using k5
 clear k5
 by_cases k6 : o.kind = 6
 ·have e6 : (o.kind == 6) = true := by simpa using k6
  have ha : Hid (ans = setTextL (f.flat 0) next o.id o.text) := by show _ = _; rw [← hans.out]; unfold doL; rw [if_neg n0]; rw [if_neg n1]; rw [if_neg n2]; rw [if_neg n3]; rw [if_neg n4]; rw [if_neg n5]; rw [if_pos k6]
  clear k6 hans n0 n1 n2 n3 n4 n5
  go_enter Tryz.func16, Tryz.ntmps16
  go_wp2_with fail
  rw [← hW1.out]
  refine (SetText_F H1.out HI.out wi o.text HT.out).mono ?_
  rintro er w' ⟨h0, rfl, hp⟩
  have H0 := Lib.hid h0
  clear h0
  have HP := Lib.hid hp
  clear hp
  go_wp2_with fail
  go_ret2
  rw [ha.out]
  exact ⟨by rw [H0.out]; rfl, HP.out.back HB1.out⟩
 have n6 := k6
 have e6 : (o.kind == 6) = false := by simpa using k6
 clear k6
 have ha : Hid (ans = (f.flat 0, next, 0, 0)) := by show _ = _; rw [← hans.out]; unfold doL; rw [if_neg n0]; rw [if_neg n1]; rw [if_neg n2]; rw [if_neg n3]; rw [if_neg n4]; rw [if_neg n5]; rw [if_neg n6]
 clear hans n0 n1 n2 n3 n4 n5 n6
 go_enter Tryz.func16, Tryz.ntmps16
 go_wp2_with fail
 rw [← hW1.out]
 go_ret2
 rw [ha.out]
 exact ⟨rfl, (same_tp H1.out HI.out (Below.refl _ _) _ _).back HB1.out⟩
end
end
section
open Go.RowKit Go.Shelf
def docD : List ItemD := [⟨0, 1, [97], [], []⟩, ⟨1, 2, [], [120], []⟩]
def docD2 : List ItemD := [⟨0, 1, [98], [], []⟩, ⟨1, 2, [], [121], []⟩]
def rows1 : List RowD := [⟨1, ⟨0, 1, [97], [], []⟩⟩, ⟨2, ⟨1, 2, [], [120], []⟩⟩]
def rows2 : List RowD := [⟨1, ⟨0, 1, [97], [], []⟩⟩, ⟨2, ⟨1, 2, [], [120], []⟩⟩, ⟨3, ⟨1, 1, [98], [], []⟩⟩, ⟨4, ⟨2, 2, [], [121], []⟩⟩]
def rows3 : List RowD := [⟨1, ⟨0, 1, [97], [], []⟩⟩, ⟨3, ⟨1, 1, [98], [], []⟩⟩, ⟨4, ⟨2, 2, [], [121], []⟩⟩, ⟨2, ⟨1, 2, [], [120], []⟩⟩]
theorem alive1 : loadL [] 1 docD = (rows1, 3, 1, 0) := by decide
theorem alive2 : insertL rows1 3 1 1 docD2 = (rows2, 5, 3, 0) := by decide
theorem alive3 : moveL rows2 5 3 1 0 = (rows3, 5, 0, 0) := by decide
theorem doc_small : SmallItems docD := ⟨by decide, fun k x hx => by
 match k, hx with
 | 0, hx => injection hx with hx; subst hx; exact ⟨by decide, by decide, by decide, fun k a h => by simp at h, by decide⟩
 | 1, hx => injection hx with hx; subst hx; exact ⟨by decide, by decide, by decide, fun k a h => by simp at h, by decide⟩
 | k + 2, hx => simp [docD] at hx⟩
theorem doc_small2 : SmallItems docD2 := ⟨by decide, fun k x hx => by
 match k, hx with
 | 0, hx => injection hx with hx; subst hx; exact ⟨by decide, by decide, by decide, fun k a h => by simp at h, by decide⟩
 | 1, hx => injection hx with hx; subst hx; exact ⟨by decide, by decide, by decide, fun k a h => by simp at h, by decide⟩
 | k + 2, hx => simp [docD2] at hx⟩
theorem two_items {M : Nat → Prop} {w : World} {b : Nat} (x1 x2 : ItemD) (h1 : x1.attrs = []) (h2 : x2.attrs = []) (h : w.heap[b]? = some (.cells #[.int .i64 x1.level, .int .i64 x1.kind, strV x1.name, strV x1.text, .slice none 0 0, .int .i64 x2.level, .int .i64 x2.kind, strV x2.name, strV x2.text, .slice none 0 0] 62 (0, 0))) (hb : b < w.heap.size) (hm : ¬ M b) :
  StandI M w (b + 1) (some ⟨b, 0, none⟩) [x1, x2] := fun wr ht _ => by
 have h' := (ht.block b hb hm).trans h
 refine ⟨_, rfl, Nat.lt_succ_self _, fun k x hx => ?_⟩
 rw [add_zero_block]
 match k, hx with
 | 0, hx =>
  injection hx with hx
  subst hx
  exact ⟨none, 0, fun h => absurd h (by rw [h1]; simp), by rw [h1]; exact Nat.le_refl _, cell_row h' 0 _ rfl, cell_row h' 1 _ rfl, cell_row h' 2 _ rfl, cell_row h' 3 _ rfl, by rw [h1]; exact cell_row h' 4 _ rfl⟩
 | 1, hx =>
  injection hx with hx
  subst hx
  exact ⟨none, 0, fun h => absurd h (by rw [h2]; simp), by rw [h2]; exact Nat.le_refl _, cell_row h' 5 _ rfl, cell_row h' 6 _ rfl, cell_row h' 7 _ rfl, cell_row h' 8 _ rfl, by rw [h2]; exact cell_row h' 9 _ rfl⟩
 | k + 2, hx => simp at hx
theorem ids_of {f : Fo} {L : List RowD} (h : L = f.flat 0) : f.ids = L.map (·.id) := by rw [h, Fo.flat_ids]
theorem cnt_of {f : Fo} {L : List RowD} (h : L = f.flat 0) : f.cnt = L.length := by rw [h, Fo.flat_len]
theorem doc_any (w : World) : Calls Tryz.prog 36 #[] w fun e w' => e = .returned (.slice (some ⟨w.heap.size, 0, none⟩) 2 2) ∧ Below w.heap.size w w' ∧ w.heap.size < w'.heap.size ∧
  w'.heap[w.heap.size]? = some (.cells #[.int .i64 0, .int .i64 1, strV [97], strV [], .slice none 0 0, .int .i64 1, .int .i64 2, strV [], strV [120], .slice none 0 0] 62 (0, 0)) := by
 go_enter Tryz.func36, Tryz.ntmps36
 go_wp2_with fail
 go_ret
 exact ⟨rfl, (Below.refl _ w).alloc (Nat.le_refl _) _, by simp, heap_alloc_new w _⟩
theorem alive_any (w : World) : Calls Tryz.prog 12 #[] w (Ret w (.bool true)) := by
 go_enter Tryz.func12, Tryz.ntmps12
 go_wp2_with fail
 refine (New_any w).mono ?_
 rintro e w1 ⟨rfl, hb1, y1, ht1⟩
 have HB1 := Lib.hid hb1
 have HT1 : Hid (TreeAt w1 (w.heap.size + 1) w.heap.size y1 (Fo.ent 0 .nil) (rootF .nil) 1 Fo.nil.cnt) := ht1
 have hz1 : Hid (w.heap.size + 1 < w1.heap.size) := ht1.lt (.inl rfl)
 have hlow1 : Hid (∀ b, Mine (w.heap.size + 1) w.heap.size y1 (Fo.ent 0 .nil) b → w.heap.size ≤ b ∧ b < w1.heap.size) := fun b hb => by
  refine ⟨?_, ht1.lt hb⟩
  rcases hb with rfl | rfl | ⟨id, e, he, _⟩
  ·omega
  ·omega
  ·cases he
 clear hb1 ht1
 go_wp2_with fail
 refine (doc_any w1).mono ?_
 rintro e w2 ⟨rfl, hb2, hz2, hd2⟩
 have HT2 := Lib.hid (HT1.out.below hb2)
 have HB2 : Hid (Below w.heap.size w w2) := HB1.out.trans (hb2.mono HB1.out.size)
 have HZ2 := Lib.hid hz2
 have HST2 : Hid (StandI (Mine (w.heap.size + 1) w.heap.size y1 (Fo.ent 0 .nil)) w2 (w1.heap.size + 1) (some ⟨w1.heap.size, 0, none⟩) docD) := two_items ⟨0, 1, [97], [], []⟩ ⟨1, 2, [], [120], []⟩ rfl rfl hd2 hz2 (fun hm => by have := (hlow1.out _ hm).2; omega)
 clear hb2 hd2 hz2
 go_wp2_with fail
 refine (Load_F HT2.out InvF.new docD (some ⟨w1.heap.size, 0, none⟩) 2 (w1.heap.size + 1) HST2.out HZ2.out doc_small).mono ?_
 rw [show loadL (Fo.flat 0 .nil) 1 docD = (rows1, 3, 1, 0) from alive1]
 rintro e w3 ⟨rfl, f3, hf3, hi3, mb3, y3, ht3, hg3⟩
 have HF3 := Lib.hid hf3
 have HI3 := Lib.hid hi3
 have HT3 := Lib.hid ht3
 have HG3 := Lib.hid hg3
 have hlow3 : Hid (∀ b, Mine (w.heap.size + 1) mb3 y3 (f3.ent 0) b → w.heap.size ≤ b) := fun b hb => by
  rcases hg3.2 b hb with h | h
  ·exact (hlow1.out b h).1
  ·have := HB2.out.size; omega
 have HB3 : Hid (Below w.heap.size w w3) := HB2.out.trans (hg3.1.below (fun b hb => (hlow1.out b hb).1) HB2.out.size)
 clear hf3 hi3 ht3 hg3
 go_wp2_with fail
 obtain ⟨W4, hW4⟩ : ∃ W4, Hid (W4 = w3.alloc (.cells #[.int .i64 0, .int .i64 1, .string ⟨#[98]⟩, .string ⟨#[]⟩, .slice none 0 0, .int .i64 1, .int .i64 2, .string ⟨#[]⟩, .string ⟨#[121]⟩, .slice none 0 0] 62)) := ⟨_, rfl⟩
 rw [← hW4.out]
 have hb4 : Below w3.heap.size w3 W4 := by rw [hW4.out]; exact (Below.refl _ w3).alloc (Nat.le_refl _) _
 have hz4 : w3.heap.size < W4.heap.size := by rw [hW4.out]; simp
 have hd4 : W4.heap[w3.heap.size]? = some (.cells #[.int .i64 0, .int .i64 1, .string ⟨#[98]⟩, .string ⟨#[]⟩, .slice none 0 0, .int .i64 1, .int .i64 2, .string ⟨#[]⟩, .string ⟨#[121]⟩, .slice none 0 0] 62 (0, 0)) := by rw [hW4.out]; exact heap_alloc_new w3 _
 have HT4 := Lib.hid (HT3.out.below hb4)
 have HZ4 := Lib.hid hz4
 have HST4 : Hid (StandI (Mine (w.heap.size + 1) mb3 y3 (f3.ent 0)) W4 (w3.heap.size + 1) (some ⟨w3.heap.size, 0, none⟩) docD2) := two_items ⟨0, 1, [98], [], []⟩ ⟨1, 2, [], [121], []⟩ rfl rfl hd4 hz4 (fun hm => by have := HT3.out.lt hm; omega)
 have HB4 : Hid (Below w.heap.size w W4) := HB3.out.trans (hb4.mono HB3.out.size)
 clear hb4 hd4 hz4
 refine (Insert_F HT4.out HI3.out ⟨by decide, by decide⟩ 1 docD2 (some ⟨w3.heap.size, 0, none⟩) 2 (w3.heap.size + 1) HST4.out HZ4.out doc_small2).mono ?_
 rw [← HF3.out, show insertL rows1 3 1 1 docD2 = (rows2, 5, 3, 0) from alive2]
 rintro e w5 ⟨rfl, f5, hf5, hi5, mb5, y5, ht5, hg5⟩
 have HF5 := Lib.hid hf5
 have HI5 := Lib.hid hi5
 have HT5 := Lib.hid ht5
 have hlow5 : Hid (∀ b, Mine (w.heap.size + 1) mb5 y5 (f5.ent 0) b → w.heap.size ≤ b) := fun b hb => by
  rcases hg5.2 b hb with h | h
  ·exact hlow3.out b h
  ·have := HB4.out.size; omega
 have HB5 : Hid (Below w.heap.size w w5) := HB4.out.trans (hg5.1.below (fun b hb => hlow3.out b hb) HB4.out.size)
 clear hf5 hi5 ht5 hg5
 go_wp2_with fail
 refine (Order_F HT5.out HI5.out).mono ?_
 rintro e w6 ⟨v6, rfl, hr6, hb6, hf6⟩
 have hids5 : f5.ids = [1, 2, 3, 4] := by rw [ids_of HF5.out]; rfl
 rw [hids5] at hr6
 have HR6 := Lib.hid hr6
 have HT6 := Lib.hid (HT5.out.below hb6)
 have HB6 : Hid (Below w.heap.size w w6) := HB5.out.trans (hb6.mono HB5.out.size)
 clear hr6 hb6 hf6 hids5
 go_wp2_with fail
 obtain ⟨W7, hW7⟩ : ∃ W7, Hid (W7 = w6.alloc (.cells #[.int .i64 1, .int .i64 2, .int .i64 3, .int .i64 4] 3)) := ⟨_, rfl⟩
 rw [← hW7.out]
 have hb7 : Below w6.heap.size w6 W7 := by rw [hW7.out]; exact (Below.refl _ w6).alloc (Nat.le_refl _) _
 have hr7 : intRow W7 (.slice (some ⟨w6.heap.size, 0, none⟩) 4 4) [1, 2, 3, 4] := by
  rw [hW7.out]
  exact row_mk (heap_alloc_new w6 _) (Nat.le_refl _) (by decide) rfl rfl
 have hr7' : intRow W7 v6 [1, 2, 3, 4] := row_block HR6.out fun b hb => hb7.block b (row_lt HR6.out hb)
 have HT7 := Lib.hid (HT6.out.below hb7)
 have HB7 : Hid (Below w.heap.size w W7) := HB6.out.trans (hb7.mono HB6.out.size)
 have HR7 := Lib.hid hr7
 have HR7' := Lib.hid hr7'
 clear hb7 hr7 hr7'
 refine (SameIds_any _ _ _ _ _ HR7'.out HR7.out true rfl).mono ?_
 rintro e w8 ⟨rfl, hb8⟩
 have HT8 := Lib.hid (HT7.out.below hb8)
 have HB8 : Hid (Below w.heap.size w w8) := HB7.out.trans (hb8.mono HB7.out.size)
 clear hb8
 go_wp2_with fail
 refine (Move_F HT8.out HI5.out ⟨by decide, by decide⟩ ⟨by decide, by decide⟩ 0).mono ?_
 rw [← HF5.out, show moveL rows2 5 3 1 0 = (rows3, 5, 0, 0) from alive3]
 rintro e w9 ⟨_, rfl, f9, hf9, hi9, mb9, y9, ht9, hg9⟩
 have HF9 := Lib.hid hf9
 have HI9 := Lib.hid hi9
 have HT9 := Lib.hid ht9
 have HB9 : Hid (Below w.heap.size w w9) := HB8.out.trans (hg9.1.below (fun b hb => hlow5.out b hb) HB8.out.size)
 clear hf9 hi9 ht9 hg9
 go_wp2_with fail
 refine (Order_F HT9.out HI9.out).mono ?_
 rintro e wa ⟨va, rfl, hra, hba, hfa⟩
 have hids9 : f9.ids = [1, 3, 4, 2] := by rw [ids_of HF9.out]; rfl
 rw [hids9] at hra
 have HRa := Lib.hid hra
 have HTa := Lib.hid (HT9.out.below hba)
 have HBa : Hid (Below w.heap.size w wa) := HB9.out.trans (hba.mono HB9.out.size)
 clear hra hba hfa hids9
 go_wp2_with fail
 obtain ⟨Wb, hWb⟩ : ∃ Wb, Hid (Wb = wa.alloc (.cells #[.int .i64 1, .int .i64 3, .int .i64 4, .int .i64 2] 3)) := ⟨_, rfl⟩
 rw [← hWb.out]
 have hbb : Below wa.heap.size wa Wb := by rw [hWb.out]; exact (Below.refl _ wa).alloc (Nat.le_refl _) _
 have hrb : intRow Wb (.slice (some ⟨wa.heap.size, 0, none⟩) 4 4) [1, 3, 4, 2] := by
  rw [hWb.out]
  exact row_mk (heap_alloc_new wa _) (Nat.le_refl _) (by decide) rfl rfl
 have hrb' : intRow Wb va [1, 3, 4, 2] := row_block HRa.out fun b hb => hbb.block b (row_lt HRa.out hb)
 have HTb := Lib.hid (HTa.out.below hbb)
 have HBb : Hid (Below w.heap.size w Wb) := HBa.out.trans (hbb.mono HBa.out.size)
 have HRb := Lib.hid hrb
 have HRb' := Lib.hid hrb'
 clear hbb hrb hrb'
 refine (SameIds_any _ _ _ _ _ HRb'.out HRb.out true rfl).mono ?_
 rintro e wc ⟨rfl, hbc⟩
 have htc := HTb.out.below hbc
 have hcn : f9.cnt = 4 := by rw [cnt_of HF9.out]; rfl
 rw [hcn] at htc
 have HTc := Lib.hid htc
 have HBc : Hid (Below w.heap.size w wc) := HBb.out.trans (hbc.mono HBb.out.size)
 clear hbc htc hcn
 go_wp2_with fail
 refine (Len_any HTc.out).mono ?_
 rintro e w' ⟨rfl, rfl⟩
 go_wp2_with fail
 go_ret
 exact ⟨rfl, HBc.out⟩
end
section
open Go.RowKit Go.Shelf
def manyL (l : List OpD) : Nat := (l.map (·.l.length)).sum
def fewL (l : List OpD) : Bool := decide (l.length ≤ 80) && decide (manyL l ≤ 2500)
theorem many_snoc {l : List OpD} {k : Nat} {o : OpD} (h : l[k]? = some o) : manyL (l.take (k + 1)) = manyL (l.take k) + o.l.length := by
 unfold manyL
 rw [List.take_add_one, h]
 simp
theorem many_le (l : List OpD) (h : ∀ o ∈ l, o.l.length ≤ 1048576) : manyL l ≤ 1048576 * l.length := by
 unfold manyL
 induction l with
 | nil => simp
 | cons o l ih =>
  have h1 := h o (by simp)
  have h2 := ih fun z hz => h z (by simp [hz])
  simp only [List.map_cons, List.sum_cons, List.length_cons]
  omega
theorem many_mem {l : List OpD} {o : OpD} (h : o ∈ l) : o.l.length ≤ manyL l := by
 unfold manyL
 induction l with
 | nil => cases h
 | cons a l ih =>
  simp only [List.map_cons, List.sum_cons]
  rcases List.mem_cons.1 h with rfl | h
  ·omega
  ·have := ih h; omega
theorem few_any (l : List OpD) (A : Option Addr) (c B : Nat) (w : World) (hl : OpsAt w B A l) (hB : B ≤ w.heap.size) (hs : SmallOps l) (r : Bool) (hr : Hid (fewL l = r)) :
  Calls Tryz.prog 11 #[.slice A l.length c] w (Ret w (.bool r)) := by
 obtain ⟨hs1, hs2⟩ := hs
 have HL := Lib.hid hl
 have HS := Lib.hid hs2
 clear hl hs2
 have hbd : ∀ k, k ≤ l.length → manyL (l.take k) ≤ 1099511627776 := fun k hk => by
  have := many_le (l.take k) (fun o ho => (HS.out o (List.mem_of_mem_take ho)).2)
  rw [List.length_take, Nat.min_eq_left hk] at this
  omega
 have HBD := Lib.hid hbd
 clear hbd
 go_enter Tryz.func11, Tryz.ntmps11
 go_wp2_with fail
 go_loopw [3, 8] (fun n i wr => ∃ (k m : Nat), k ≤ l.length ∧ i = .int .i64 k ∧ n = .int .i64 (m : Int) ∧ Hid (manyL (l.take k) = m) ∧ Below w.heap.size w wr) (fun _ i _ => l.length - (intOf i).toNat)
 case atStart => exact ⟨0, 0, Nat.zero_le _, rfl, rfl, rfl, Below.refl _ _⟩
 case round =>
  obtain ⟨k, m, hk, rfl, rfl, hm, hbel⟩ := hrel
  have hzr := hbel.size
  have hm1 : (m : Int) ≤ 1099511627776 := by have := HBD.out k hk; rw [hm.out] at this; omega
  have hm0 : (0 : Int) ≤ (m : Int) := by omega
  by_cases hlt : k < l.length
  ·obtain ⟨o, ho⟩ : ∃ o, Hid (l[k]? = some o) := ⟨l[k], List.getElem?_eq_getElem _⟩
   have hAr := HL.out.below (hbel.mono hB)
   obtain ⟨ad, hAd, hadB, hcells⟩ := hAr (by omega)
   subst hAd
   obtain ⟨A', c', hit, hcap, k0, k1, k2, k3, k4, k5, k6⟩ := hcells k o ho.out
   have hol : (o.l.length : Int) ≤ 1048576 := by have := (HS.out o (List.mem_of_getElem? ho.out)).2; omega
   have hol0 : (0 : Int) ≤ (o.l.length : Int) := by omega
   unfold strV at k4 k5
   have hlt' : (k : Int) < l.length := by omega
   have hsn := many_snoc ho.out
   rw [hm.out] at hsn
   have HSN := Lib.hid hsn
   clear hAr hcells hit hsn hcap
   go_wp2_with fail
   go_roundw
   case rel => exact ⟨k + 1, m + o.l.length, by omega, by go_num, by go_num, HSN.out, hbel.alloc hzr _⟩
   case measure => simp [intOf]; omega
  ·have hlt' : ¬ (k : Int) < l.length := by omega
   have hkl : k = l.length := by omega
   have hmm : Hid (manyL l = m) := by
    show _ = _
    rw [← hm.out, List.take_of_length_le (by omega)]
   have hl0 : (0 : Int) ≤ (l.length : Int) := by omega
   have hl1 : (l.length : Int) ≤ 1048576 := by omega
   clear hm
   by_cases h80 : l.length ≤ 80
   ·have h1 : (l.length : Int) ≤ 80 := by omega
    have h1' : decide ((l.length : Int) ≤ 80) = true := decide_eq_true h1
    have h1n : decide (l.length ≤ 80) = true := decide_eq_true h80
    by_cases h25 : m ≤ 2500
    ·have h2 : (m : Int) ≤ 2500 := by omega
     have hr' : Hid (r = true) := by show _ = _; rw [← hr.out]; unfold fewL; rw [hmm.out]; simp [h80, h25]
     go_wp2_with fail
     go_ret
     exact ⟨by rw [hr'.out]; rfl, hbel⟩
    ·have h2 : decide ((m : Int) ≤ 2500) = false := decide_eq_false (by omega)
     have hr' : Hid (r = false) := by show _ = _; rw [← hr.out]; unfold fewL; rw [hmm.out]; simp [h25]
     go_wp2_with fail
     go_ret
     exact ⟨by rw [hr'.out]; rfl, hbel⟩
   ·have h1' : decide ((l.length : Int) ≤ 80) = false := decide_eq_false (by omega)
    have h1n : decide (l.length ≤ 80) = false := decide_eq_false h80
    have hr' : Hid (r = false) := by show _ = _; rw [← hr.out]; unfold fewL; simp [h80]
    go_wp2_with fail
    go_ret
    exact ⟨by rw [hr'.out]; rfl, hbel⟩
end
section
open Go.RowKit Go.Shelf
def TreeM (M : Nat → Prop) (t : Nat) (f : Fo) (next : Int) (w : World) : Prop := ∃ mb y, TreeAt w t mb y (f.ent 0) (rootF f) next f.cnt ∧ InvF f next ∧ (∀ b, Mine t mb y (f.ent 0) b → M b) ∧ ∀ b, M b → b < w.heap.size
section
variable {M : Nat → Prop} {t : Nat} {f : Fo} {next : Int} {w w' : World}
theorem TreeM.below (h : TreeM M t f next w) (hb : Below w.heap.size w w') : TreeM M t f next w' := by
 obtain ⟨mb, y, h1, h2, h3, h4⟩ := h
 exact ⟨mb, y, h1.below hb, h2, h3, fun b hm => Nat.lt_of_lt_of_le (h4 b hm) hb.size⟩
theorem TreeM.turn {M' : Nat → Prop} (h : TreeM M t f next w) (ht : Turn M' w w') (hd : ∀ b, M b → ¬ M' b) : TreeM M t f next w' := by
 obtain ⟨mb, y, h1, h2, h3, h4⟩ := h
 exact ⟨mb, y, h1.turn ht fun b hm => hd b (h3 b hm), h2, h3, fun b hm => Nat.lt_of_lt_of_le (h4 b hm) ht.size⟩
theorem TreeM.inv (h : TreeM M t f next w) : InvF f next := by obtain ⟨_, _, _, h, _⟩ := h; exact h
theorem TreeM.lt (h : TreeM M t f next w) {b : Nat} (hb : M b) : b < w.heap.size := by obtain ⟨_, _, _, _, _, h⟩ := h; exact h b hb
theorem Next_in (h : TreeM M t f next w) : Calls Tryz.prog 17 #[.pointer (some ⟨t, 0, none⟩)] w fun e w' => e = .returned (.int .i64 next) ∧ w = w' := by
 obtain ⟨_, _, h, _⟩ := h
 exact Next_g h
theorem Len_in (h : TreeM M t f next w) : Calls Tryz.prog 38 #[.pointer (some ⟨t, 0, none⟩)] w fun e w' => e = .returned (.int .i64 (f.cnt : Int)) ∧ w = w' := by
 obtain ⟨_, _, h, _⟩ := h
 exact Len_any h
theorem Root_in (h : TreeM M t f next w) : Calls Tryz.prog 33 #[.pointer (some ⟨t, 0, none⟩)] w fun e w' => e = .returned (.int .i64 (rootF f)) ∧ w = w' := by
 obtain ⟨_, _, h, _⟩ := h
 exact Root_any h
theorem Order_in (h : TreeM M t f next w) : Calls Tryz.prog 20 #[.pointer (some ⟨t, 0, none⟩)] w fun e w' => ∃ v, e = .returned v ∧ intRow w' v f.ids ∧ Below w.heap.size w w' ∧ (∀ b, v.ownBlock = some b → w.heap.size ≤ b) := by
 obtain ⟨_, _, h, hi, _⟩ := h
 exact Order_F h hi
theorem Items_in (h : TreeM M t f next w) {id : Int} (hw : wfI id) : Calls Tryz.prog 22 #[.pointer (some ⟨t, 0, none⟩), .int .i64 id] w fun e w' => ∃ A c S, e = .returned (.slice A S.length c) ∧ S.map (·.1) = itemsAt (f.flat 0) id ∧ ItemsOwn w' w.heap.size A c S ∧
   (∀ s ∈ S, AttrsOwn w' w.heap.size s.2.1 s.2.2 s.1.attrs) ∧ Below w.heap.size w w' := by
 obtain ⟨_, _, h, hi, _⟩ := h
 exact Items_F h hi hw
def DoM (M : Nat → Prop) (t : Nat) (w : World) (a : Ans) (w' : World) : Prop := ∃ (M' : Nat → Prop) (f' : Fo), a.1 = f'.flat 0 ∧ TreeM M' t f' a.2.1 w' ∧ Grows M M' w w'
def DoIn (M : Nat → Prop) (t : Nat) (w : World) (a : Ans) (er : Ending) (w' : World) : Prop := er = .returned (.tuple #[.int .i64 a.2.2.1, .int .i64 a.2.2.2]) ∧ DoM M t w a w'
theorem DoP.toM {mb : Nat} {y : Lay} {a : Ans} (h : DoP t mb y f w a w') (hm : ∀ b, Mine t mb y (f.ent 0) b → M b) : DoM M t w a w' := by
 obtain ⟨f', h1, h2, mb', y', h3, h4⟩ := h
 refine ⟨Mine t mb' y' (f'.ent 0), f', h1, ⟨mb', y', h3, h2, fun _ h => h, fun b hb => h3.lt hb⟩, h4.1.mono hm, fun b hb => ?_⟩
 rcases h4.2 b hb with h | h
 ·exact .inl (hm b h)
 ·exact .inr h
theorem does_in (h : TreeM M t f next w) (o : OpD) (A : Option Addr) (c N : Nat) (hl : ItemsAt w N A o.l) (hM : ∀ b, M b → N ≤ b) (hN : N ≤ w.heap.size) (hs : SmallOp o) :
  Calls Tryz.prog 16 #[.pointer (some ⟨t, 0, none⟩), .agg (opVal o A c)] w (DoIn M t w (doL (f.flat 0) next o)) := by
 obtain ⟨mb, y, h, hi, hm, _⟩ := h
 refine (does_any h hi o A c N (StandI.of hl (fun b hb => hM b (hm b hb)) hN) hN hs).mono ?_
 rintro er w' ⟨rfl, hp⟩
 exact ⟨rfl, hp.toM hm⟩
theorem Grows.low {M M' : Nat → Prop} {N : Nat} {w w' : World} (h : Grows M M' w w') (hM : ∀ b, M b → N ≤ b) (hN : N ≤ w.heap.size) : ∀ b, M' b → N ≤ b := fun b hb => by
 rcases h.2 b hb with h | h
 ·exact hM b h
 ·omega
end
end
section
open Go.RowKit
variable {X : Nat → Prop}
def RowCells (w : World) (ad : Addr) (k : Nat) (r : RowD) (A : Option Addr) (c : Nat) : Prop :=
 w.cell? (ad.add (k * 6)) = some (.int .i64 r.id) ∧ w.cell? ⟨(ad.add (k * 6)).block, (ad.add (k * 6)).off + 1, none⟩ = some (.int .i64 r.x.level) ∧ w.cell? ⟨(ad.add (k * 6)).block, (ad.add (k * 6)).off + 2, none⟩ = some (.int .i64 r.x.kind) ∧
 w.cell? ⟨(ad.add (k * 6)).block, (ad.add (k * 6)).off + 3, none⟩ = some (strV r.x.name) ∧ w.cell? ⟨(ad.add (k * 6)).block, (ad.add (k * 6)).off + 4, none⟩ = some (strV r.x.text) ∧ w.cell? ⟨(ad.add (k * 6)).block, (ad.add (k * 6)).off + 5, none⟩ = some (.slice A r.x.attrs.length c)
def AttrsX (X : Nat → Prop) (w : World) (B : Nat) (A : Option Addr) (l : List AttrD) : Prop := AttrsAt w B A l ∧ (0 < l.length → ∀ ad, A = some ad → X ad.block)
theorem AttrsX.below {w w' : World} {B : Nat} {A : Option Addr} {l : List AttrD} (h : AttrsX X w B A l) (hb : Below B w w') : AttrsX X w' B A l := ⟨h.1.below hb, h.2⟩
theorem AttrsX.more {w : World} {B B' : Nat} {A : Option Addr} {l : List AttrD} (h : AttrsX X w B A l) (hb : B ≤ B') : AttrsX X w B' A l := ⟨h.1.more hb, h.2⟩
theorem AttrsX.of {w : World} {B : Nat} {A : Option Addr} {l : List AttrD} (h : AttrsAt w B A l) (hX : ∀ b, b < B → X b) : AttrsX X w B A l := ⟨h, fun hp ad e => by
 obtain ⟨ad', e', hb, _⟩ := h hp
 rw [e] at e'
 injection e' with e'
 subst e'
 exact hX _ hb⟩
def Blk (X : Nat → Prop) (B b : Nat) : Prop := b < B ∧ X b
def RowsAt (X : Nat → Prop) (w : World) (B : Nat) (A : Option Addr) (l : List RowD) : Prop :=
 0 < l.length → ∃ ad, A = some ad ∧ Blk X B ad.block ∧ ∀ k r, l[k]? = some r → ∃ A' c, AttrsX X w B A' r.x.attrs ∧ r.x.attrs.length ≤ c ∧ RowCells w ad k r A' c
def SmallRows (l : List RowD) : Prop := l.length ≤ 1000000 ∧ ∀ r ∈ l, (-1000000 ≤ r.x.level ∧ r.x.level ≤ 1000000) ∧ r.x.attrs.length ≤ 1000000 ∧ r.x.name.length ≤ 1000000000 ∧ r.x.text.length ≤ 1000000000
section
variable {w w' : World} {B B' : Nat} {A : Option Addr} {l : List RowD}
theorem RowsAt.keep (h : RowsAt X w B A l) (hk : ∀ p : Addr, p.block < B → w'.cell? p = w.cell? p) : RowsAt X w' B A l := fun hp => by
 obtain ⟨ad, h1, h2, h3⟩ := h hp
 refine ⟨ad, h1, h2, fun k o ho => ?_⟩
 obtain ⟨A', c, k1, k2, k3, k4, k5, k6, k7, k8⟩ := h3 k o ho
 have hb : (ad.add (k * 6)).block < B := by rw [block_of_add]; exact h2.1
 exact ⟨A', c, ⟨k1.1.keep hk, k1.2⟩, k2, (hk _ (by exact hb)).trans k3, (hk _ (by exact hb)).trans k4, (hk _ (by exact hb)).trans k5, (hk _ (by exact hb)).trans k6, (hk _ (by exact hb)).trans k7, (hk _ (by exact hb)).trans k8⟩
theorem RowsAt.more (h : RowsAt X w B A l) (hB : B ≤ B') : RowsAt X w B' A l := fun hp => by
 obtain ⟨ad, h1, h2, h3⟩ := h hp
 refine ⟨ad, h1, ⟨Nat.lt_of_lt_of_le h2.1 hB, h2.2⟩, fun k o ho => ?_⟩
 obtain ⟨A', c, k1, k2⟩ := h3 k o ho
 exact ⟨A', c, k1.more hB, k2⟩
theorem RowsAt.below (h : RowsAt X w B A l) (hb : Below B w w') : RowsAt X w' B A l := h.keep fun _ hp => hb.cell hp
theorem RowsAt.row {ad : Addr} (h : RowsAt X w B (some ad) l) {k : Nat} {r : RowD} (hr : l[k]? = some r) : ad.block < B ∧ ∃ A' c, AttrsX X w B A' r.x.attrs ∧ r.x.attrs.length ≤ c ∧ RowCells w ad k r A' c := by
 obtain ⟨ad', e, hb, hc⟩ := h (by have := (List.getElem?_eq_some_iff.1 hr).1; omega)
 injection e with e; subst e
 exact ⟨hb.1, hc k r hr⟩
end
/-! ## Found, the end, the parent -/
def findI (L : List RowD) (id : Int) : Int := match findL L id with
 | some k => (k : Int)
 | none => -1
theorem find_hit : ∀ (L : List RowD) (k : Nat) (r : RowD) (id : Int), (∀ j z, j < k → L[j]? = some z → z.id ≠ id) → L[k]? = some r → r.id = id → findL L id = some k
 | [], _, _, _, _, h, _ => by simp at h
 | a :: L, 0, r, id, _, h, h' => by simp at h; subst h; rw [findL, if_pos h']
 | a :: L, k + 1, r, id, hn, h, h' => by
  rw [findL, if_neg (hn 0 a (by omega) rfl), find_hit L k r id (fun j z hj hz => hn (j + 1) z (by omega) (by simpa using hz)) (by simpa using h) h']
  rfl
theorem find_miss {L : List RowD} {id : Int} (h : ∀ j z, j < L.length → L[j]? = some z → z.id ≠ id) : findL L id = none := find_none L id fun r hr => by
 obtain ⟨j, hj, rfl⟩ := List.mem_iff_getElem.1 hr
 exact h j _ hj (List.getElem?_eq_getElem hj)
theorem while_hit {α : Type} (p : α → Bool) : ∀ (l : List α) (n : Nat), (∀ j z, j < n → l[j]? = some z → p z = true) → n ≤ l.length → (∀ z, l[n]? = some z → p z = false) → (l.takeWhile p).length = n
 | [], n, _, h, _ => by simp at h; simp [h]
 | a :: l, 0, _, _, h => by rw [List.takeWhile_cons_of_neg (by simp [h a rfl])]; rfl
 | a :: l, n + 1, h1, h2, h3 => by
  rw [List.takeWhile_cons_of_pos (h1 0 a (by omega) rfl), List.length_cons, while_hit p l n (fun j z hj hz => h1 (j + 1) z (by omega) (by simpa using hz)) (by simpa using h2) (fun z hz => h3 z (by simpa using hz))]
theorem lvl_get {L : List RowD} {k : Nat} {r : RowD} (h : L[k]? = some r) : lvlL L k = r.x.level := by unfold lvlL; rw [h]
theorem end_hit {L : List RowD} {k i : Nat} (hk : k < i) (hi : i ≤ L.length) (h : ∀ j z, k < j → j < i → L[j]? = some z → lvlL L k < z.x.level) (h' : ∀ z, L[i]? = some z → z.x.level ≤ lvlL L k) : endL L k = i := by
 unfold endL belowL
 rw [while_hit (fun r : RowD => decide (lvlL L k < r.x.level)) (L.drop (k + 1)) (i - (k + 1)) (fun j z hj hz => ?_) (by rw [List.length_drop]; omega) (fun z hz => ?_)]
 ·omega
 ·rw [List.getElem?_drop] at hz
  exact decide_eq_true (h _ z (by omega) (by omega) hz)
 ·rw [List.getElem?_drop, show k + 1 + (i - (k + 1)) = i by omega] at hz
  exact decide_eq_false (by have := h' z hz; omega)
theorem end_le {L : List RowD} {k : Nat} (hk : k < L.length) : k < endL L k ∧ endL L k ≤ L.length := by
 unfold endL belowL
 have := (List.takeWhile_sublist (fun r : RowD => decide (lvlL L k < r.x.level)) (l := L.drop (k + 1))).length_le
 rw [List.length_drop] at this
 omega
theorem below_get {L : List RowD} {k j : Nat} (h : k + 1 + j < endL L k) : (belowL L k)[j]? = L[k + 1 + j]? := by
 have h1 : belowL L k = (L.drop (k + 1)).take (belowL L k).length := by
  unfold belowL
  exact (List.prefix_iff_eq_take.1 (List.takeWhile_prefix _))
 unfold endL at h
 rw [h1, List.getElem?_take, if_pos (by omega), List.getElem?_drop]
theorem posL_snoc (lv : Int) (b : Nat) {X : List RowD} {j : Nat} {r : RowD} (h : X[j]? = some r) : posL lv b (X.take (j + 1)) = posL lv b (X.take j) ++ (if r.x.level = lv then [b + j] else []) := by
 have hj := (List.getElem?_eq_some_iff.1 h).1
 rw [List.take_add_one, h, posL_app]
 simp only [Option.toList_some, posL, List.length_take, Nat.min_eq_left (Nat.le_of_lt hj)]
theorem posL_len (lv : Int) : ∀ (X : List RowD) (b : Nat), (posL lv b X).length ≤ X.length
 | [], _ => Nat.le_refl _
 | x :: X, b => by
  have := posL_len lv X (b + 1)
  rw [posL]
  split <;> simp <;> omega
end
section
open Go.RowKit Go.Shelf
variable {X : Nat → Prop}
abbrev SlotR := RowD × Option Addr × Nat
def cellsR (s : SlotR) : List Value := [.int .i64 s.1.id, .int .i64 s.1.x.level, .int .i64 s.1.x.kind, strV s.1.x.name, strV s.1.x.text, .slice s.2.1 s.1.x.attrs.length s.2.2]
theorem cellsR_length (s : SlotR) : (cellsR s).length = 6 := rfl
theorem cellsR_one (S : List SlotR) : ∀ u ∈ S.flatMap cellsR, u.oneCell' = true := fun u hu => by
 obtain ⟨s, _, hs⟩ := List.mem_flatMap.1 hu
 simp only [cellsR, List.mem_cons, List.not_mem_nil, or_false] at hs
 rcases hs with rfl | rfl | rfl | rfl | rfl | rfl <;> rfl
def RowsOwn (w : World) (B : Nat) (A : Option Addr) (c : Nat) (S : List SlotR) : Prop := w.ownsRow B 97 6 (.slice A S.length c) S.length (S.flatMap cellsR)
theorem infoRow : (Tryz.prog.info? 97).map (fun i => (i.zero, i.size, i.bytes)) = some (some (.agg #[.int .i64 0, .int .i64 0, .int .i64 0, .string ByteArray.empty, .string ByteArray.empty, .slice none 0 0]), 6, 80) := by kernel_rfl
def AttrsOf (X : Nat → Prop) (w : World) (N : Nat) (S : List SlotR) : Prop := ∀ s ∈ S, AttrsX X w N s.2.1 s.1.x.attrs ∧ s.1.x.attrs.length ≤ s.2.2
theorem AttrsOf.below {w w' : World} {N : Nat} {S : List SlotR} (h : AttrsOf X w N S) (hb : Below N w w') : AttrsOf X w' N S := fun s hs => ⟨(h s hs).1.below hb, (h s hs).2⟩
theorem AttrsOf.more {w : World} {N N' : Nat} {S : List SlotR} (h : AttrsOf X w N S) (hN : N ≤ N') : AttrsOf X w N' S := fun s hs => ⟨(h s hs).1.more hN, (h s hs).2⟩
theorem AttrsOf.app {w : World} {N : Nat} {S T : List SlotR} (h : AttrsOf X w N S) (k : AttrsOf X w N T) : AttrsOf X w N (S ++ T) := fun s hs => by
 rcases List.mem_append.1 hs with hs | hs
 ·exact h s hs
 ·exact k s hs
theorem RowsOwn.nil (w : World) (B : Nat) : RowsOwn w B none 0 [] := ⟨by simp, .inl ⟨rfl, rfl⟩⟩
theorem RowsOwn.at {w : World} {B : Nat} {A : Option Addr} {c : Nat} {S : List SlotR} (h : RowsOwn w B A c S) (ha : AttrsOf X w w.heap.size S) (hX : ∀ b, B ≤ b → X b) : RowsAt X w w.heap.size A (S.map (·.1)) := fun hl => by
 have hl' : 0 < S.length := by simpa using hl
 obtain ⟨g, rfl, hb, hg, _, hc⟩ := own_flat cellsR cellsR_length h hl'
 refine ⟨_, rfl, ⟨hg, hX _ hb⟩, fun k x hx => ?_⟩
 rw [List.getElem?_map] at hx
 obtain ⟨s, hs, rfl⟩ := Option.map_eq_some_iff.1 hx
 obtain ⟨h1, h2⟩ := ha s (List.mem_of_getElem? hs)
 have e : ∀ j u, (cellsR s)[j]? = some u → w.cell? ⟨g, k * 6 + j, none⟩ = some u := fun j u hu => by
  have := hc k s j u hs hu
  rwa [add_zero_block] at this
 refine ⟨s.2.1, s.2.2, h1, h2, ?_⟩
 unfold RowCells
 rw [add_zero_block]
 exact ⟨e 0 _ rfl, e 1 _ rfl, e 2 _ rfl, e 3 _ rfl, e 4 _ rfl, e 5 _ rfl⟩
theorem RowsOwn.keepB {w w' : World} {B : Nat} {A : Option Addr} {c : Nat} {S : List SlotR} (h : RowsOwn w B A c S) (hb : Below w.heap.size w w') : RowsOwn w' B A c S := row_block h fun b hb' => hb.block b (h.lt b hb').2
theorem slots_of {w : World} {B : Nat} {ad : Addr} {L : List RowD} (h : RowsAt X w B (some ad) L) : ∃ S : List SlotR, S.map (·.1) = L ∧ AttrsOf X w B S ∧ ∀ k s, S[k]? = some s → ∀ j u, (cellsR s)[j]? = some u → w.cell? (ad.add (k * 6 + j)) = some u := by
 have key : ∀ n, n ≤ L.length → ∃ S : List SlotR, S.map (·.1) = L.take n ∧ (∀ s ∈ S, AttrsX X w B s.2.1 s.1.x.attrs ∧ s.1.x.attrs.length ≤ s.2.2) ∧ ∀ k s, S[k]? = some s → ∀ j u, (cellsR s)[j]? = some u → w.cell? (ad.add (k * 6 + j)) = some u := by
  intro n
  induction n with
  | zero => intro _; exact ⟨[], rfl, by simp, fun k s hs => by simp at hs⟩
  | succ n ih =>
   intro hn
   obtain ⟨S, h1, h2, h3⟩ := ih (by omega)
   have hSl : S.length = n := by have := congrArg List.length h1; simpa [Nat.min_eq_left (show n ≤ L.length by omega)] using this
   obtain ⟨r, hr⟩ : ∃ r, L[n]? = some r := ⟨L[n], List.getElem?_eq_getElem (by omega)⟩
   obtain ⟨_, A', c', g1, g2, g3⟩ := h.row hr
   refine ⟨S ++ [(r, A', c')], by rw [List.map_append, h1, List.take_add_one, hr]; rfl, fun s hs => ?_, fun k s hs j u hu => ?_⟩
   ·rcases List.mem_append.1 hs with hs | hs
    ·exact h2 s hs
    ·rw [List.mem_singleton.1 hs]; exact ⟨g1, g2⟩
   ·by_cases hk : k < S.length
    ·rw [List.getElem?_append_left hk] at hs
     exact h3 k s hs j u hu
    ·have hk' : k = n := by
      have := (List.getElem?_eq_some_iff.1 hs).1
      simp at this; omega
     subst hk'
     rw [List.getElem?_append_right (by omega), hSl, Nat.sub_self] at hs
     simp at hs
     subst hs
     obtain ⟨e0, e1, e2, e3, e4, e5⟩ := g3
     have hadd : ∀ j, j ≠ 0 → ad.add (k * 6 + j) = ⟨(ad.add (k * 6)).block, (ad.add (k * 6)).off + j, none⟩ := fun j hj => by
      rw [← add_of_add]
      generalize ad.add (k * 6) = b
      unfold Addr.add
      rw [if_neg hj]
     match j, hu with
     | 0, hu => simp [cellsR] at hu; subst hu; exact e0
     | 1, hu => simp [cellsR] at hu; subst hu; rw [hadd 1 (by decide)]; exact e1
     | 2, hu => simp [cellsR] at hu; subst hu; rw [hadd 2 (by decide)]; exact e2
     | 3, hu => simp [cellsR] at hu; subst hu; rw [hadd 3 (by decide)]; exact e3
     | 4, hu => simp [cellsR] at hu; subst hu; rw [hadd 4 (by decide)]; exact e4
     | 5, hu => simp [cellsR] at hu; subst hu; rw [hadd 5 (by decide)]; exact e5
     | j + 6, hu => simp [cellsR] at hu
 obtain ⟨S, h1, h2, h3⟩ := key L.length (Nat.le_refl _)
 exact ⟨S, by rw [h1, List.take_length], h2, h3⟩
theorem run_append_rows {W : World} {A : Option Addr} {c : Nat} {S0 : List SlotR} (hown : RowsOwn W 0 A c S0) (T : List SlotR) (hT : 0 < T.length) (a : Addr) (cT : Nat) (hc : ∀ j u, (T.flatMap cellsR)[j]? = some u → W.cell? (a.add j) = some u) (hl0 : S0.length ≤ 1000000) (hl1 : T.length ≤ 1000000) :
  ∃ pa pc w', (Builtin.append_ #[27, 27] 27 #[.slice A S0.length c, .slice (some a) T.length cT]).run Tryz.prog W = .ok (.slice pa (S0.length + T.length) pc) w' ∧ RowsOwn w' 0 pa pc (S0 ++ T) ∧ W.grownBy w' (Value.slice A S0.length c).ownBlock ∧
   ∀ b, (Value.slice pa (S0.length + T.length) pc).ownBlock = some b → (Value.slice A S0.length c).ownBlock = some b ∨ W.heap.size ≤ b := by
 obtain ⟨v', w', hr, hrow, hg, hf⟩ := run_appendG (P := Tryz.prog) W 27 27 97 _ 6 80 Tryz.underlying27 infoRow rfl (by decide) (by decide) _ S0.length _ hown a T.length cT (T.flatMap cellsR) hT (flat_length cellsR 6 cellsR_length T) hc (cellsR_one T) (by omega) (by omega)
 obtain ⟨pa, pc, rfl, _⟩ := row_shape hrow
 refine ⟨pa, pc, w', hr, ?_, hg, hf⟩
 unfold RowsOwn
 rw [List.length_append, List.flatMap_append]
 exact hrow
theorem run_append_none (W : World) (A : Option Addr) (n c : Nat) (hnc : n ≤ c) (A' : Option Addr) (c' : Nat) : (Builtin.append_ #[27, 27] 27 #[.slice A n c, .slice A' 0 c']).run Tryz.prog W = .ok (.slice A n c) W := by
 obtain ⟨i0, hi0, hz0, hz1, hz2⟩ := info_parts infoRow
 have hf : (Builtin.firstCells i0.size 0 (Value.slice A' 0 c')).run Tryz.prog W = .ok #[] W := by
  cases A' with
  | none => exact run_firstCells_none _ _ _ _ _
  | some a => exact run_firstCells_some W i0.size 0 a 0 c' [] (by simp) (fun j v h => by simp at h)
 cases A with
 | none => simp [Builtin.append_, run_underlying Tryz.underlying27, sizeOf, typeInfo, zeroValue, hi0, hz0, Builtin.lenOf, hf, hnc]
 | some a => simp [Builtin.append_, run_underlying Tryz.underlying27, sizeOf, typeInfo, zeroValue, hi0, hz0, Builtin.lenOf, hf, hnc, storeCells]
end
section
open Go.RowKit Go.Shelf
variable {X : Nat → Prop}
theorem named_snoc {next more : Int} {l : List ItemD} {k : Nat} {x : ItemD} (h : l[k]? = some x) : (namedL next l more).take (k + 1) = (namedL next l more).take k ++ [⟨next + (k : Int), { x with level := x.level + more }⟩] := by
 have hk := (List.getElem?_eq_some_iff.1 h).1
 have hg : (namedL next l more)[k]? = some ⟨next + (k : Int), { x with level := x.level + more }⟩ := by
  unfold namedL
  rw [List.getElem?_map]
  have hz : (l.zip (idsFrom next l.length))[k]? = some (x, next + (k : Int)) := by
   rw [List.getElem?_zip_eq_some]
   refine ⟨h, ?_⟩
   unfold idsFrom
   rw [List.getElem?_map, List.getElem?_range hk]; rfl
  rw [hz]; rfl
 rw [List.take_add_one, hg]; rfl
theorem named_length (next more : Int) (l : List ItemD) : (namedL next l more).length = l.length := by
 unfold namedL
 rw [List.length_map, List.length_zip, idsFrom_length, Nat.min_self]
theorem Rnamed_g (A0 : Option Addr) (n0 c0 : Nat) (next more : Int) (l : List ItemD) (A : Option Addr) (c N : Nat) (w : World) (hi : ItemsAt w N A l) (hN : N ≤ w.heap.size) (hln : l.length ≤ 1000000) (hlv : ∀ x ∈ l, (-1000000 ≤ x.level ∧ x.level ≤ 1000000)) (hm : -1000000 ≤ more ∧ more ≤ 1000000) (hn : 0 ≤ next ∧ next ≤ 4294967296) (hNX : ∀ b, b < N → X b) :
  Calls Tryz.prog 83 #[.agg #[.slice A0 n0 c0, .int .i64 next], .slice A l.length c, .int .i64 more] w fun er w' => ∃ A2 c2 S, er = .returned (.slice A2 S.length c2) ∧ S.map (·.1) = namedL next l more ∧ RowsOwn w' w.heap.size A2 c2 S ∧ AttrsOf X w N S ∧ Below w.heap.size w w' := by
 have HI := Lib.hid hi
 have HLV := Lib.hid hlv
 have HNX := Lib.hid hNX
 obtain ⟨m0, m1⟩ := hm
 obtain ⟨n1, n2⟩ := hn
 obtain ⟨W1, hW1⟩ : ∃ W1, Hid (W1 = w.alloc (.cells #[.slice A0 n0 c0, .int .i64 next] 29)) := ⟨_, rfl⟩
 have hb1 : Below w.heap.size w W1 := by rw [hW1.out]; exact (Below.refl _ w).alloc (Nat.le_refl _) _
 have hX1 : W1.heap[w.heap.size]? = some (.cells #[.slice A0 n0 c0, .int .i64 next] 29 (0, 0)) := by rw [hW1.out]; exact heap_alloc_new w _
 have hz1 : w.heap.size < W1.heap.size := by rw [hW1.out]; simp
 have HB1 := Lib.hid hb1
 have HX1 := Lib.hid hX1
 have HZ1 := Lib.hid hz1
 clear hb1 hX1 hz1 hi hlv hNX
 go_enter Tryz.func83, Tryz.ntmps83
 go_wp2_with fail
 rw [← hW1.out]
 go_loopw [7, 8] (fun o i wr => ∃ (k : Nat) (A2 : Option Addr) (c2 : Nat) (S : List SlotR), k ≤ l.length ∧ i = .int .i64 (k : Int) ∧ o = .slice A2 k c2 ∧ Hid (S.length = k) ∧ Hid (S.map (·.1) = (namedL next l more).take k) ∧ Hid (RowsOwn wr W1.heap.size A2 c2 S) ∧
  Hid (AttrsOf X w N S) ∧ Hid (Below W1.heap.size W1 wr)) (fun _ i _ => l.length - (intOf i).toNat)
 case atStart => exact ⟨0, none, 0, [], Nat.zero_le _, rfl, rfl, rfl, rfl, RowsOwn.nil _ _, fun s hs => (by cases hs), Below.refl _ _⟩
 case round =>
  obtain ⟨k, A2, c2, S, hk, rfl, rfl, hSl, hS, hown, hat, hbel⟩ := hrel
  have hX := (hbel.out.block _ HZ1.out).trans HX1.out
  have t0 := cell_row hX 0 _ rfl
  have t1 := cell_row hX 1 _ rfl
  have hI1 := HI.out.below ((HB1.out.trans (hbel.out.mono HB1.out.size)).mono hN)
  clear hX
  by_cases hlt : k < l.length
  ·obtain ⟨x, hx⟩ : ∃ x, Hid (l[k]? = some x) := ⟨l[k], List.getElem?_eq_getElem _⟩
   obtain ⟨ad, hAd, _⟩ := hI1 (by omega)
   subst hAd
   obtain ⟨_, A', c', hat', hac, h0, h1, h2, h3, h4⟩ := hI1.item hx.out
   obtain ⟨_, B', c'', hatw, hacw, g0, g1, g2, g3, g4⟩ := (HI.out).item hx.out
   obtain ⟨x0, x1⟩ := HLV.out x (List.mem_of_getElem? hx.out)
   unfold strV at h2 h3
   have k00 : (0 : Int) ≤ (k : Int) := by omega
   have hlt' : (k : Int) < l.length := by omega
   have hkb : (k : Int) ≤ 1000000 := by omega
   obtain ⟨s, hs⟩ : ∃ s : SlotR, Hid (s = (⟨next + (k : Int), { x with level := x.level + more }⟩, B', c'')) := ⟨_, rfl⟩
   have hAB : A' = B' ∧ c' = c'' := by
    have hcell := (HB1.out.trans (hbel.out.mono HB1.out.size)).cell (p := ⟨(ad.add (k * 5)).block, (ad.add (k * 5)).off + 4, none⟩) (by have := (HI.out (by omega)); obtain ⟨ad', e, h, _⟩ := this; injection e with e; subst e; show (ad.add _).block < _; rw [block_of_add]; omega)
    rw [h4, g4] at hcell
    injection hcell with hcell
    injection hcell with q1 _ q3
    exact ⟨q1, q3⟩
   obtain ⟨rfl, rfl⟩ := hAB
   have HATW := Lib.hid (And.intro (AttrsX.of hatw HNX.out) hacw)
   obtain ⟨W2, hW2⟩ : ∃ W2, Hid (W2 = wr.alloc (.cells #[.int .i64 (x.level + more), .int .i64 x.kind, .string ⟨x.name.toArray⟩, .string ⟨x.text.toArray⟩, .slice A' x.attrs.length c'] 62)) := ⟨_, rfl⟩
   have hb2 : Below wr.heap.size wr W2 := by rw [hW2.out]; exact (Below.refl _ wr).alloc (Nat.le_refl _) _
   have t1' : W2.cell? ⟨w.heap.size, 1, none⟩ = some (.int .i64 next) := (hb2.cell (Nat.lt_of_lt_of_le HZ1.out hbel.out.size)).trans t1
   obtain ⟨W3, hW3⟩ : ∃ W3, Hid (W3 = W2.alloc (.cells #[.int .i64 (next + (k : Int)), .int .i64 (x.level + more), .int .i64 x.kind, .string ⟨x.name.toArray⟩, .string ⟨x.text.toArray⟩, .slice A' x.attrs.length c'] 97)) := ⟨_, rfl⟩
   have hb3 : Below wr.heap.size wr W3 := by rw [hW3.out]; exact hb2.alloc hb2.size _
   have hx3 : W3.heap[W2.heap.size]? = some (.cells #[.int .i64 (next + (k : Int)), .int .i64 (x.level + more), .int .i64 x.kind, .string ⟨x.name.toArray⟩, .string ⟨x.text.toArray⟩, .slice A' x.attrs.length c'] 97 (0, 0)) := by rw [hW3.out]; exact heap_alloc_new W2 _
   have hown3 : RowsOwn W3 0 A2 c2 S := World.ownsRow.mono (hown.out.keepB hb3) (Nat.zero_le _)
   obtain ⟨pa, pc, w4, hr4, hrow4, hg4, hf4⟩ := run_append_rows hown3 [s] (by simp) ⟨W2.heap.size, 0, none⟩ 1 (fun j u hj => by
    rw [add_zero_block]
    refine cell_row hx3 j u ?_
    rw [hs.out] at hj
    match j, hj with
    | 0, hj => simpa [cellsR] using hj
    | 1, hj => simpa [cellsR] using hj
    | 2, hj => simpa [cellsR] using hj
    | 3, hj => simpa [cellsR, strV] using hj
    | 4, hj => simpa [cellsR, strV] using hj
    | 5, hj => simpa [cellsR] using hj
    | j + 6, hj => simp [cellsR] at hj) (by rw [hSl.out]; omega) (by simp)
   simp only [List.length_singleton] at hr4 hf4
   have hlow : ∀ b, (Value.slice A2 S.length c2).ownBlock = some b → W1.heap.size ≤ b := fun b hb => (hown.out.lt b hb).1
   have hb4 : Below W1.heap.size W1 w4 := (hbel.out.trans (hb3.mono hbel.out.size)).grown hg4 (Nat.le_trans hbel.out.size hb3.size) (fun b hb => hlow b hb)
   have hown4 : RowsOwn w4 W1.heap.size pa pc (S ++ [s]) := by
    refine own_up hrow4 fun b hb => ?_
    rw [show (S ++ [s]).length = S.length + 1 by simp] at hb
    rcases hf4 b hb with h | h
    ·exact hlow b h
    ·have := hbel.out.size; have := hb3.size; omega
   rw [hSl.out] at hr4
   have hsz2 : W2.heap.size = wr.heap.size + 1 := by rw [hW2.out]; simp
   rw [hsz2, hW3.out, hW2.out] at hr4
   rw [hW2.out] at t1'
   have HOWN4 := Lib.hid hown4
   have HB4 := Lib.hid hb4
   have hSn : Hid ((S ++ [s]).map (·.1) = (namedL next l more).take (k + 1)) := by
    show _ = _
    rw [List.map_append, hS.out, named_snoc hx.out, hs.out]; rfl
   have hatn : Hid (AttrsOf X w N (S ++ [s])) := fun s' hs' => by
    rcases List.mem_append.1 hs' with h | h
    ·exact hat.out s' h
    ·rw [List.mem_singleton.1 h, hs.out]; exact HATW.out
   clear hI1 hat' g0 g1 g2 g3 g4 hatw hacw hb2 hb3 hx3 hown3 hrow4 hg4 hf4 hlow hb4 hown4 hsz2 t0 t1
   go_wp2_with (at_builtin; refine wpList_append_runI _ rfl _ _ 27 rfl (.slice A2 k c2) (.slice (some ⟨wr.heap.size + 1, 0, none⟩) 1 1) (by simp [Act.eval]) (by simp [Act.eval]) hr4 ?_)
   go_roundw
   case rel => exact ⟨k + 1, pa, pc, S ++ [s], by omega, by go_num, rfl, by show _ = _; simp [hSl.out], hSn.out, HOWN4.out, hatn.out, HB4.out⟩
   case measure => simp [intOf]; omega
  ·have hlt' : ¬ (k : Int) < l.length := by omega
   have hfin : Hid (S.map (·.1) = namedL next l more) := by
    show _ = _
    rw [hS.out, List.take_of_length_le (by rw [named_length]; omega)]
   clear hI1
   go_wp2_with fail
   go_ret
   exact ⟨A2, c2, S, by rw [hSl.out]; rfl, hfin.out, World.ownsRow.mono hown.out HB1.out.size, hat.out, HB1.out.trans (hbel.out.mono HB1.out.size)⟩
end
section
open Go.RowKit Go.Shelf
variable {X : Nat → Prop}
theorem RowsAt.sub {w : World} {B : Nat} {ad : Addr} {L : List RowD} (h : RowsAt X w B (some ad) L) (k n : Nat) : RowsAt X w B (some (ad.add (k * 6))) ((L.drop k).take n) := fun hp => by
 have hk : k < L.length := by
  have := hp
  rw [List.length_take, List.length_drop] at this
  omega
 obtain ⟨ad', e, hb, hc⟩ := h (by omega)
 injection e with e
 subst e
 refine ⟨_, rfl, by rw [block_of_add]; exact hb, fun j r hr => ?_⟩
 rw [List.getElem?_take] at hr
 split at hr
 ·rw [List.getElem?_drop] at hr
  obtain ⟨A', c, q1, q2, q3⟩ := hc (k + j) r hr
  refine ⟨A', c, q1, q2, ?_⟩
  unfold RowCells at q3 ⊢
  rw [add_of_add, ← Nat.add_mul]
  exact q3
 ·cases hr
theorem part_snoc {less : Int} {L : List RowD} {k : Nat} {r : RowD} (h : L[k]? = some r) : (partL L less).take (k + 1) = (partL L less).take k ++ [⟨r.id, { r.x with level := r.x.level - less }⟩] := by
 have hg : (partL L less)[k]? = some ⟨r.id, { r.x with level := r.x.level - less }⟩ := by
  unfold partL
  rw [List.getElem?_map, h]; rfl
 rw [List.take_add_one, hg]; rfl
theorem part_length (L : List RowD) (less : Int) : (partL L less).length = L.length := by unfold partL; rw [List.length_map]
theorem Rpart_g (L : List RowD) (A : Option Addr) (c N : Nat) (less : Int) (w : World) (hi : RowsAt X w N A L) (hN : N ≤ w.heap.size) (hs : SmallRows L) (hm : -1000000 ≤ less ∧ less ≤ 1000000) :
  Calls Tryz.prog 55 #[.slice A L.length c, .int .i64 less] w fun er w' => ∃ A2 c2 S, er = .returned (.slice A2 S.length c2) ∧ S.map (·.1) = partL L less ∧ RowsOwn w' w.heap.size A2 c2 S ∧ AttrsOf X w N S ∧ Below w.heap.size w w' := by
 have HI := Lib.hid hi
 obtain ⟨hs1, hs2⟩ := hs
 have HLV := Lib.hid hs2
 obtain ⟨m0, m1⟩ := hm
 have hn1 : (L.length : Int) ≤ 1000000 := by omega
 clear hi hs2
 go_enter Tryz.func55, Tryz.ntmps55
 go_wp2_with fail
 go_loopw [5, 6] (fun o i wr => ∃ (k : Nat) (A2 : Option Addr) (c2 : Nat) (S : List SlotR), k ≤ L.length ∧ i = .int .i64 (k : Int) ∧ o = .slice A2 k c2 ∧ Hid (S.length = k) ∧ Hid (S.map (·.1) = (partL L less).take k) ∧ Hid (RowsOwn wr w.heap.size A2 c2 S) ∧
  Hid (AttrsOf X w N S) ∧ Hid (Below w.heap.size w wr)) (fun _ i _ => L.length - (intOf i).toNat)
 case atStart => exact ⟨0, none, 0, [], Nat.zero_le _, rfl, rfl, rfl, rfl, RowsOwn.nil _ _, fun s hs => (by cases hs), Below.refl _ _⟩
 case round =>
  obtain ⟨k, A2, c2, S, hk, rfl, rfl, hSl, hS, hown, hat, hbel⟩ := hrel
  have hI1 := HI.out.below (hbel.out.mono hN)
  by_cases hlt : k < L.length
  ·obtain ⟨x, hx⟩ : ∃ x, Hid (L[k]? = some x) := ⟨L[k], List.getElem?_eq_getElem _⟩
   obtain ⟨ad, hAd, _⟩ := hI1 (by omega)
   subst hAd
   obtain ⟨_, A', c', hat', hac, h0, h1, h2, h3, h4, h5⟩ := hI1.row hx.out
   obtain ⟨hadN, B', c'', hatw, hacw, g0, g1, g2, g3, g4, g5⟩ := (HI.out).row hx.out
   obtain ⟨⟨x0, x1⟩, _⟩ := HLV.out x (List.mem_of_getElem? hx.out)
   have hAB : A' = B' ∧ c' = c'' := by
    have hcell := hbel.out.cell (p := ⟨(ad.add (k * 6)).block, (ad.add (k * 6)).off + 5, none⟩) (by show (ad.add _).block < _; rw [block_of_add]; omega)
    rw [h5, g5] at hcell
    injection hcell with hcell
    injection hcell with q1 _ q3
    exact ⟨q1, q3⟩
   obtain ⟨rfl, rfl⟩ := hAB
   have HATW := Lib.hid (And.intro hatw hacw)
   unfold strV at h3 h4
   have k00 : (0 : Int) ≤ (k : Int) := by omega
   have hlt' : (k : Int) < L.length := by omega
   obtain ⟨s, hs⟩ : ∃ s : SlotR, Hid (s = (⟨x.id, { x.x with level := x.x.level - less }⟩, A', c')) := ⟨_, rfl⟩
   obtain ⟨W2, hW2⟩ : ∃ W2, Hid (W2 = wr.alloc (.cells #[.int .i64 x.id, .int .i64 (x.x.level - less), .int .i64 x.x.kind, .string ⟨x.x.name.toArray⟩, .string ⟨x.x.text.toArray⟩, .slice A' x.x.attrs.length c'] 97)) := ⟨_, rfl⟩
   have hb2 : Below wr.heap.size wr W2 := by rw [hW2.out]; exact (Below.refl _ wr).alloc (Nat.le_refl _) _
   obtain ⟨W3, hW3⟩ : ∃ W3, Hid (W3 = W2.alloc (.cells #[.int .i64 x.id, .int .i64 (x.x.level - less), .int .i64 x.x.kind, .string ⟨x.x.name.toArray⟩, .string ⟨x.x.text.toArray⟩, .slice A' x.x.attrs.length c'] 97)) := ⟨_, rfl⟩
   have hb3 : Below wr.heap.size wr W3 := by rw [hW3.out]; exact hb2.alloc hb2.size _
   have hx3 : W3.heap[W2.heap.size]? = some (.cells #[.int .i64 x.id, .int .i64 (x.x.level - less), .int .i64 x.x.kind, .string ⟨x.x.name.toArray⟩, .string ⟨x.x.text.toArray⟩, .slice A' x.x.attrs.length c'] 97 (0, 0)) := by rw [hW3.out]; exact heap_alloc_new W2 _
   have hown3 : RowsOwn W3 0 A2 c2 S := World.ownsRow.mono (hown.out.keepB hb3) (Nat.zero_le _)
   obtain ⟨pa, pc, w4, hr4, hrow4, hg4, hf4⟩ := run_append_rows hown3 [s] (by simp) ⟨W2.heap.size, 0, none⟩ 1 (fun j u hj => by
    rw [add_zero_block]
    refine cell_row hx3 j u ?_
    rw [hs.out] at hj
    match j, hj with
    | 0, hj => simpa [cellsR] using hj
    | 1, hj => simpa [cellsR] using hj
    | 2, hj => simpa [cellsR] using hj
    | 3, hj => simpa [cellsR, strV] using hj
    | 4, hj => simpa [cellsR, strV] using hj
    | 5, hj => simpa [cellsR] using hj
    | j + 6, hj => simp [cellsR] at hj) (by rw [hSl.out]; omega) (by simp)
   simp only [List.length_singleton] at hr4 hf4
   have hlow : ∀ b, (Value.slice A2 S.length c2).ownBlock = some b → w.heap.size ≤ b := fun b hb => (hown.out.lt b hb).1
   have hb4 : Below w.heap.size w w4 := (hbel.out.trans (hb3.mono hbel.out.size)).grown hg4 (Nat.le_trans hbel.out.size hb3.size) (fun b hb => hlow b hb)
   have hown4 : RowsOwn w4 w.heap.size pa pc (S ++ [s]) := by
    refine own_up hrow4 fun b hb => ?_
    rw [show (S ++ [s]).length = S.length + 1 by simp] at hb
    rcases hf4 b hb with h | h
    ·exact hlow b h
    ·have := hbel.out.size; have := hb3.size; omega
   rw [hSl.out] at hr4
   have hsz2 : W2.heap.size = wr.heap.size + 1 := by rw [hW2.out]; simp
   rw [hsz2, hW3.out, hW2.out] at hr4
   have HOWN4 := Lib.hid hown4
   have HB4 := Lib.hid hb4
   have hSn : Hid ((S ++ [s]).map (·.1) = (partL L less).take (k + 1)) := by
    show _ = _
    rw [List.map_append, hS.out, part_snoc hx.out, hs.out]; rfl
   have hatn : Hid (AttrsOf X w N (S ++ [s])) := fun s' hs' => by
    rcases List.mem_append.1 hs' with h | h
    ·exact hat.out s' h
    ·rw [List.mem_singleton.1 h, hs.out]; exact HATW.out
   clear hI1 hat' g0 g1 g2 g3 g4 g5 hatw hacw hb2 hb3 hx3 hown3 hrow4 hg4 hf4 hlow hb4 hown4 hsz2 hadN
   go_wp2_with (at_builtin; refine wpList_append_runI _ rfl _ _ 27 rfl (.slice A2 k c2) (.slice (some ⟨wr.heap.size + 1, 0, none⟩) 1 1) (by simp [Act.eval]) (by simp [Act.eval]) hr4 ?_)
   go_roundw
   case rel => exact ⟨k + 1, pa, pc, S ++ [s], by omega, by go_num, rfl, by show _ = _; simp [hSl.out], hSn.out, HOWN4.out, hatn.out, HB4.out⟩
   case measure => simp [intOf]; omega
  ·have hlt' : ¬ (k : Int) < L.length := by omega
   have hfin : Hid (S.map (·.1) = partL L less) := by
    show _ = _
    rw [hS.out, List.take_of_length_le (by rw [part_length]; omega)]
   clear hI1
   go_wp2_with fail
   go_ret
   exact ⟨A2, c2, S, by rw [hSl.out]; rfl, hfin.out, hown.out, hat.out, hbel.out⟩
end
section
open Go.RowKit Go.Shelf
variable {X : Nat → Prop}
def SlotsAt (w : World) (B : Nat) (A : Option Addr) (T : List SlotR) : Prop := 0 < T.length → ∃ a, A = some a ∧ a.block < B ∧ ∀ k s, T[k]? = some s → ∀ j u, (cellsR s)[j]? = some u → w.cell? (a.add (k * 6 + j)) = some u
theorem slots_all {w : World} {B : Nat} {A : Option Addr} {L : List RowD} (h : RowsAt X w B A L) : ∃ T : List SlotR, T.map (·.1) = L ∧ AttrsOf X w B T ∧ SlotsAt w B A T := by
 by_cases hl : 0 < L.length
 ·obtain ⟨ad, rfl, hb, _⟩ := h hl
  obtain ⟨T, h1, h2, h3⟩ := slots_of h
  exact ⟨T, h1, h2, fun _ => ⟨ad, rfl, hb.1, h3⟩⟩
 ·have : L = [] := List.length_eq_zero_iff.1 (by omega)
  subst this
  exact ⟨[], rfl, fun s hs => (by cases hs), fun h => absurd h (by simp)⟩
theorem SlotsAt.keep {w w' : World} {B : Nat} {A : Option Addr} {T : List SlotR} (h : SlotsAt w B A T) (hk : ∀ p : Addr, p.block < B → w'.cell? p = w.cell? p) : SlotsAt w' B A T := fun hp => by
 obtain ⟨a, h1, h2, h3⟩ := h hp
 exact ⟨a, h1, h2, fun k s hs j u hu => (hk _ (by rw [block_of_add]; exact h2)).trans (h3 k s hs j u hu)⟩
theorem SlotsAt.below {w w' : World} {B : Nat} {A : Option Addr} {T : List SlotR} (h : SlotsAt w B A T) (hb : Below B w w') : SlotsAt w' B A T := h.keep fun _ hp => hb.cell hp
theorem SlotsAt.take {w : World} {B : Nat} {A : Option Addr} {T : List SlotR} (h : SlotsAt w B A T) (n : Nat) : SlotsAt w B A (T.take n) := fun hp => by
 obtain ⟨a, h1, h2, h3⟩ := h (by rw [List.length_take] at hp; omega)
 refine ⟨a, h1, h2, fun k s hs => h3 k s ?_⟩
 rw [List.getElem?_take] at hs
 split at hs
 ·exact hs
 ·cases hs
theorem SlotsAt.drop {w : World} {B : Nat} {ad : Addr} {T : List SlotR} (h : SlotsAt w B (some ad) T) (n : Nat) : SlotsAt w B (some (ad.add (n * 6))) (T.drop n) := fun hp => by
 obtain ⟨a, h1, h2, h3⟩ := h (by rw [List.length_drop] at hp; omega)
 injection h1 with h1
 subst h1
 refine ⟨_, rfl, by rw [block_of_add]; exact h2, fun k s hs j u hu => ?_⟩
 rw [List.getElem?_drop] at hs
 have := h3 (n + k) s hs j u hu
 rw [add_of_add, show n * 6 + (k * 6 + j) = (n + k) * 6 + j by omega]
 exact this
theorem run_append_any {W : World} {A : Option Addr} {c B : Nat} {S0 : List SlotR} (hown : RowsOwn W 0 A c S0) (T : List SlotR) (A' : Option Addr) (cT : Nat) (hT : SlotsAt W B A' T) (hl0 : S0.length ≤ 1000000) (hl1 : T.length ≤ 1000000) :
  ∃ pa pc w', (Builtin.append_ #[27, 27] 27 #[.slice A S0.length c, .slice A' T.length cT]).run Tryz.prog W = .ok (.slice pa (S0.length + T.length) pc) w' ∧ RowsOwn w' 0 pa pc (S0 ++ T) ∧ W.grownBy w' (Value.slice A S0.length c).ownBlock ∧
   ∀ b, (Value.slice pa (S0.length + T.length) pc).ownBlock = some b → (Value.slice A S0.length c).ownBlock = some b ∨ W.heap.size ≤ b := by
 by_cases h0 : 0 < T.length
 ·obtain ⟨a, rfl, _, h3⟩ := hT h0
  refine run_append_rows hown T h0 a cT (fun j u hj => ?_) hl0 hl1
  have hlen := flat_length cellsR 6 cellsR_length T
  have hj6 : j < T.length * 6 := by rw [← hlen]; exact (List.getElem?_eq_some_iff.1 hj).1
  obtain ⟨q, r, hr, rfl⟩ : ∃ q r, r < 6 ∧ j = q * 6 + r := ⟨j / 6, j % 6, by omega, by omega⟩
  have hq : q < T.length := by omega
  have hs : T[q]? = some T[q] := List.getElem?_eq_getElem hq
  rw [flat_get cellsR 6 cellsR_length T q r _ hs hr] at hj
  exact h3 q _ hs r u hj
 ·have : T = [] := List.length_eq_zero_iff.1 (by omega)
  subst this
  obtain ⟨_, c', hv, hnc, _⟩ := row_shape hown
  injection hv with hA _ hc
  subst hc
  have := run_append_none W A S0.length c hnc A' cT
  exact ⟨A, c, W, by simpa using this, by rw [List.append_nil]; exact hown, ⟨rfl, rfl, rfl, Nat.le_refl _, fun _ _ _ => rfl⟩, fun b hb => .inl (by simpa using hb)⟩
def SliceOk (A : Option Addr) (n c : Nat) : Prop := n ≤ c ∧ c ≤ maxLen ∧ (A = none → n = 0 ∧ c = 0)
theorem RowsOwn.ok {w : World} {B : Nat} {A : Option Addr} {c : Nat} {S : List SlotR} (h : RowsOwn w B A c S) : SliceOk A S.length c := by
 obtain ⟨A', c', hv, h1, h2, h3, _⟩ := row_shape (World.ownsRow.mono h (Nat.zero_le _))
 injection hv with e1 _ e3
 subst e1; subst e3
 exact ⟨h1, h2, h3⟩
end
section
open Go.RowKit
end
section
open Go.RowKit Go.Shelf
variable {X : Nat → Prop}
def treeV (A : Option Addr) (n c : Nat) (next : Int) : Array Value := #[.slice A n c, .int .i64 next]
def zeroT : Array Value := #[.slice none 0 0, .int .i64 0]
theorem treeV_one (A : Option Addr) (n c : Nat) (next : Int) : (treeV A n c next).all (·.oneCell') = true := by simp [treeV, Value.oneCell']
theorem Rlaid_g (L : List RowD) (ad : Addr) (c : Nat) (next : Int) (k : Nat) (new : List RowD) (A' : Option Addr) (c' : Nat) (w : World) (hL : RowsAt X w w.heap.size (some ad) L) (_hs : SmallRows L) (hc : SliceOk (some ad) L.length c) (hN : RowsAt X w w.heap.size A' new) (hns : new.length ≤ 100000) (hk : k ≤ L.length) (hll : L.length ≤ 100000) :
  Calls Tryz.prog 86 #[.agg #[.slice (some ad) L.length c, .int .i64 next], .int .i64 (k : Int), .slice A' new.length c'] w fun er w' => ∃ A2 c2 S, er = .returned (.agg #[.slice A2 S.length c2, .int .i64 next]) ∧ S.map (·.1) = laidL L k new ∧ RowsOwn w' w.heap.size A2 c2 S ∧ AttrsOf X w w.heap.size S ∧ Below w.heap.size w w' := by
 obtain ⟨T, t1, t2, t3⟩ := slots_all hL
 obtain ⟨T', u1, u2, u3⟩ := slots_all hN
 obtain ⟨hc1, hc2, _⟩ := hc
 obtain ⟨n, hn⟩ : ∃ n, Hid (L.length = n) := ⟨_, rfl⟩
 obtain ⟨n', hn'⟩ : ∃ n, Hid (new.length = n) := ⟨_, rfl⟩
 rw [hn.out] at hc1 hk hll ⊢
 rw [hn'.out] at hns ⊢
 have hk0 : (0 : Int) ≤ (k : Int) := by omega
 have hk1 : (k : Int) ≤ (n : Int) := by omega
 have hk2 : (k : Int) ≤ (c : Int) := by omega
 have hkn : k ≤ n := hk
 have hkc : k ≤ c := by omega
 have hnc : (n : Int) ≤ (c : Int) := by omega
 have hT : T.length = n := by rw [← hn.out, ← t1, List.length_map]
 have hT' : T'.length = n' := by rw [← hn'.out, ← u1, List.length_map]
 obtain ⟨W2, hW2⟩ : ∃ W2, Hid (W2 = (w.alloc (.cells #[.slice (some ad) n c, .int .i64 next] 29)).alloc (.cells #[.slice none 0 0, .int .i64 0] 29)) := ⟨_, rfl⟩
 have hb2 : Below w.heap.size w W2 := by rw [hW2.out]; exact ((Below.refl _ w).alloc (Nat.le_refl _) _).alloc (by simp) _
 have hz2 : W2.heap.size = w.heap.size + 2 := by rw [hW2.out]; simp
 have hx2 : W2.heap[w.heap.size]? = some (.cells #[.slice (some ad) n c, .int .i64 next] 29 (0, 0)) := by
  rw [hW2.out]
  exact (Below.heap_alloc _ _ _ (by simp)).trans (heap_alloc_new w _)
 have hy2 : W2.heap[w.heap.size + 1]? = some (.cells #[.slice none 0 0, .int .i64 0] 29 (0, 0)) := by
  rw [hW2.out]
  have := heap_alloc_new (w.alloc (.cells #[.slice (some ad) n c, .int .i64 next] 29)) (.cells #[.slice none 0 0, .int .i64 0] 29)
  simpa using this
 -- the first append
 have htk : (T.take k).length = k := by rw [List.length_take, hT]; omega
 obtain ⟨pa, pc, w3, hr3, hown3, hg3, hf3⟩ := run_append_any (RowsOwn.nil W2 0) (T.take k) (some ad) c ((t3.below hb2).take k) (by simp) (by rw [htk]; omega)
 rw [htk, List.length_nil, Nat.zero_add] at hr3 hf3
 rw [List.nil_append] at hown3
 have hb3 : Below W2.heap.size W2 w3 := ⟨hg3.os, hg3.tape, hg3.output, hg3.size, fun b hb => hg3.block b hb (by simp [Value.ownBlock])⟩
 have hfr3 : ∀ b, (Value.slice pa k pc).ownBlock = some b → W2.heap.size ≤ b := fun b hb => by
  rcases hf3 b hb with h | h
  ·simp [Value.ownBlock] at h
  ·exact h
 -- the second
 have hb3w : Below w.heap.size w w3 := hb2.trans (hb3.mono hb2.size)
 obtain ⟨pb, pd, w4, hr4, hown4, hg4, hf4⟩ := run_append_any hown3 T' A' c' (u3.below hb3w) (by rw [htk]; omega) (by rw [hT']; omega)
 rw [htk, hT'] at hr4 hf4
 rw [htk] at hg4
 have hb4 : Below W2.heap.size W2 w4 := hb3.grown hg4 hb3.size hfr3
 have hfr4 : ∀ b, (Value.slice pb (k + n') pd).ownBlock = some b → W2.heap.size ≤ b := fun b hb => by
  rcases hf4 b hb with h | h
  ·exact hfr3 b h
  ·exact Nat.le_trans hb3.size h
 have hb4w : Below w.heap.size w w4 := hb2.trans (hb4.mono hb2.size)
 have hS4 : (T.take k ++ T').length = k + n' := by rw [List.length_append, htk, hT']
 have hx4 : w4.heap[w.heap.size]? = some (.cells #[.slice (some ad) n c, .int .i64 next] 29 (0, 0)) := (hb4.block _ (by omega)).trans hx2
 have hy4 : w4.heap[w.heap.size + 1]? = some (.cells #[.slice none 0 0, .int .i64 0] 29 (0, 0)) := (hb4.block _ (by omega)).trans hy2
 -- the third: the rest lies behind, or is none
 have hdk : (T.drop k).length = n - k := by rw [List.length_drop, hT]
 have hrest : ∀ A5 : Option Addr, (c = k ∧ A5 = some ad ∨ A5 = some (ad.add (k * 6))) → ∃ pe pf w5, (Builtin.append_ #[27, 27] 27 #[.slice pb (k + n') pd, .slice A5 (n - k) (c - k)]).run Tryz.prog w4 = .ok (.slice pe (k + n' + (n - k)) pf) w5 ∧
   Hid (RowsOwn w5 w.heap.size pe pf (T.take k ++ T' ++ T.drop k)) ∧ Hid (Below W2.heap.size W2 w5) := by
  intro A5 hA5
  have hsl : SlotsAt w4 w.heap.size A5 (T.drop k) := by
   rcases hA5 with ⟨h, h'⟩ | h
   ·intro hp; exfalso; rw [hdk] at hp; omega
   ·rw [h]; exact (t3.below hb4w).drop k
  obtain ⟨pe, pf, w5, hr5, hown5, hg5, hf5⟩ := run_append_any hown4 (T.drop k) A5 (c - k) hsl (by rw [hS4]; omega) (by rw [hdk]; omega)
  rw [hS4, hdk] at hr5 hf5
  rw [hS4] at hg5
  refine ⟨pe, pf, w5, hr5, ?_, hb4.grown hg5 hb4.size hfr4⟩
  refine own_up hown5 fun b hb => ?_
  rw [List.length_append, hS4, hdk] at hb
  rcases hf5 b hb with h | h
  ·have := hfr4 b h; omega
  ·have := hb4.size; omega
 have hmapS : (T.take k ++ T' ++ T.drop k).map (·.1) = laidL L k new := by
  unfold laidL
  rw [List.map_append, List.map_append, List.map_take, List.map_drop, t1, u1]
 have hattr : AttrsOf X w w.heap.size (T.take k ++ T' ++ T.drop k) := AttrsOf.app (AttrsOf.app (fun s hs => t2 s (List.mem_of_mem_take hs)) u2) (fun s hs => t2 s (List.mem_of_mem_drop hs))
 have hlen5 : (T.take k ++ T' ++ T.drop k).length = k + n' + (n - k) := by rw [List.length_append, hS4, hdk]
 have a0 := cell_row hx2 0 _ rfl
 have a4 := cell_row hx4 0 _ rfl
 have a4' := cell_row hx4 1 _ rfl
 have a3 := cell_row ((hb3.block _ (by omega)).trans hx2) 0 _ rfl
 have HREST := Lib.hid hrest
 have HMS := Lib.hid hmapS
 have HAT := Lib.hid hattr
 have HL5 := Lib.hid hlen5
 have HX2 := Lib.hid hx2
 have HY2 := Lib.hid hy2
 have HB2 := Lib.hid hb2
 have HZ2 := Lib.hid hz2
 clear hrest hmapS hattr hlen5 hx4 hy4 hb3 hb4 hb3w hb4w hg3 hg4 hf3 hf4 hfr3 hfr4 hown3 hown4 hdk hS4 htk t1 t2 t3 u1 u2 u3 hT hT' hx2 hy2 hb2 hz2
 rw [hW2.out] at hr3 a0
 have hAx : Hid (∀ w5 : World, Below W2.heap.size W2 w5 → w5.heap[w.heap.size]? = some (.cells #[.slice (some ad) n c, .int .i64 next] 29 (0, 0)) ∧ w5.heap[w.heap.size + 1]? = some (.cells #[.slice none 0 0, .int .i64 0] 29 (0, 0))) := fun w5 hb =>
  ⟨(hb.block _ (by have := HZ2.out; omega)).trans HX2.out, (hb.block _ (by have := HZ2.out; omega)).trans HY2.out⟩
 by_cases hck : c = k
 ·subst hck
  obtain rfl : n = c := by omega
  obtain ⟨pe, pf, w5, hr5, HOWN, HB5⟩ := HREST.out (some ad) (.inl ⟨rfl, rfl⟩)
  rw [Nat.sub_self, Nat.add_zero] at hr5
  have HL6 : Hid ((T.take n ++ T' ++ T.drop n).length = n + n') := by show _ = _; rw [HL5.out]; omega
  have c5 := cell_row (hAx.out w5 HB5.out).1 0 _ rfl
  have e5 := cell_row (hAx.out w5 HB5.out).1 1 _ rfl
  have f5 := free_row (hAx.out w5 HB5.out).1 0
  go_enter Tryz.func86, Tryz.ntmps86
  go_upto_region 5 with (first | (at_builtin; refine wpList_append_runI _ rfl _ _ 27 rfl (.slice none 0 0) (.slice (some ad) n n) (by simp [Act.eval]) (by simp [Act.eval]) hr3 ?_) | (at_builtin; refine wpList_append_runI _ rfl _ _ 27 rfl (.slice pa n pc) (.slice A' n' c') (by simp [Act.eval]) (by simp [Act.eval]) hr4 ?_) | (at_builtin; refine wpList_append_runI _ rfl _ _ 27 rfl (.slice pb (n + n') pd) (.slice (some ad) 0 0) (by simp [Act.eval]) (by simp [Act.eval]) hr5 ?_))
  clear c5 e5 f5
  have HB6 : Hid (Below w.heap.size w (w5.setCell ⟨w.heap.size, 0, none⟩ (.slice pe (n + n') pf))) := (HB2.out.trans (HB5.out.mono HB2.out.size)).setCell (Nat.le_refl _) _
  obtain ⟨w6, hw6⟩ : ∃ w6, Hid (w5.setCell ⟨w.heap.size, 0, none⟩ (.slice pe (n + n') pf) = w6) := ⟨_, rfl⟩
  rw [hw6.out] at HB6
  have hx6 : w6.heap[w.heap.size]? = some (.cells (treeV pe (n + n') pf next) 29 (0, 0)) := by rw [← hw6.out]; exact Lib.heap_setCell_same (i := 0) (hAx.out w5 HB5.out).1 _
  have HY6 : Hid (w6.heap[w.heap.size + 1]? = some (.cells zeroT 29 (0, 0))) := by
   show _ = _
   rw [← hw6.out, Below.heap_setCell _ _ _ _ (by show w.heap.size + 1 ≠ w.heap.size; omega)]
   exact (hAx.out w5 HB5.out).2
  have HOWN6 : Hid (RowsOwn w6 w.heap.size pe pf (T.take n ++ T' ++ T.drop n)) := by
   show RowsOwn _ _ _ _ _
   rw [← hw6.out]
   exact row_block HOWN.out fun b hb => Below.heap_setCell _ _ _ _ (fun e => by
    have e' : b = w.heap.size := e
    obtain ⟨cur, hcur⟩ := row_type (World.ownsRow.mono HOWN.out (Nat.zero_le _)) hb
    rw [e', (hAx.out w5 HB5.out).1] at hcur
    injection hcur with hcur
    injection hcur with _ hcur _
    exact absurd hcur (by decide))
  have e0 := cell_row hx6 0 _ rfl
  have e1 := cell_row hx6 1 _ rfl
  clear hx6
  rw [hw6.out]
  go_wp2_with (refine wpList_store_row rfl 29 (.tmp 6) (.tmp 24) rfl (w.heap.size + 1) (treeV pe (n + n') pf next) rfl rfl 29 zeroT HY6.out (by kernel_rfl) rfl (treeV_one _ _ _ _) ?_)
  try simp only [Exit.inBlock, Exit.then]
  refine bodyPost_ret (results_cell_row Tryz.results86 _ _ (w.heap.size + 1) 29 (treeV pe (n + n') pf next) (0, 0) _ rfl (setRow_heap _ _ _ _ _ _ HY6.out) Tryz.underlying29 rfl (by kernel_rfl)) rfl ?_
  refine ⟨pe, pf, T.take n ++ T' ++ T.drop n, by rw [HL6.out]; rfl, HMS.out, row_block HOWN6.out fun b hb => setRow_other _ _ _ _ (fun e => ?_), HAT.out, ?_⟩
  ·obtain ⟨cur, hcur⟩ := row_type (World.ownsRow.mono HOWN6.out (Nat.zero_le _)) hb
   rw [e, HY6.out] at hcur
   injection hcur with hcur
   injection hcur with _ hcur _
   exact absurd hcur (by decide)
  ·have h1 := HB6.out
   exact ⟨h1.os, h1.tape, h1.output, by rw [setRow_size]; exact h1.size, fun b hb => (setRow_other _ _ _ _ (by omega)).trans (h1.block b hb)⟩
 ·have hck' : ¬ ((c : Int) = (k : Int)) := by omega
  obtain ⟨pe, pf, w5, hr5, HOWN, HB5⟩ := HREST.out (some (ad.add (k * 6))) (.inr rfl)
  have HL6 := HL5
  have c5 := cell_row (hAx.out w5 HB5.out).1 0 _ rfl
  have e5 := cell_row (hAx.out w5 HB5.out).1 1 _ rfl
  have f5 := free_row (hAx.out w5 HB5.out).1 0
  go_enter Tryz.func86, Tryz.ntmps86
  go_upto_region 5 with (first | (at_builtin; refine wpList_append_runI _ rfl _ _ 27 rfl (.slice none 0 0) (.slice (some ad) k c) (by simp [Act.eval]) (by simp [Act.eval]) hr3 ?_) | (at_builtin; refine wpList_append_runI _ rfl _ _ 27 rfl (.slice pa k pc) (.slice A' n' c') (by simp [Act.eval]) (by simp [Act.eval]) hr4 ?_) | (at_builtin; refine wpList_append_runI _ rfl _ _ 27 rfl (.slice pb (k + n') pd) (.slice (some (ad.add (k * 6))) (n - k) (c - k)) (by simp [Act.eval]) (by simp [Act.eval]) hr5 ?_))
  clear c5 e5 f5
  have HB6 : Hid (Below w.heap.size w (w5.setCell ⟨w.heap.size, 0, none⟩ (.slice pe (k + n' + (n - k)) pf))) := (HB2.out.trans (HB5.out.mono HB2.out.size)).setCell (Nat.le_refl _) _
  obtain ⟨w6, hw6⟩ : ∃ w6, Hid (w5.setCell ⟨w.heap.size, 0, none⟩ (.slice pe (k + n' + (n - k)) pf) = w6) := ⟨_, rfl⟩
  rw [hw6.out] at HB6
  have hx6 : w6.heap[w.heap.size]? = some (.cells (treeV pe (k + n' + (n - k)) pf next) 29 (0, 0)) := by rw [← hw6.out]; exact Lib.heap_setCell_same (i := 0) (hAx.out w5 HB5.out).1 _
  have HY6 : Hid (w6.heap[w.heap.size + 1]? = some (.cells zeroT 29 (0, 0))) := by
   show _ = _
   rw [← hw6.out, Below.heap_setCell _ _ _ _ (by show w.heap.size + 1 ≠ w.heap.size; omega)]
   exact (hAx.out w5 HB5.out).2
  have HOWN6 : Hid (RowsOwn w6 w.heap.size pe pf (T.take k ++ T' ++ T.drop k)) := by
   show RowsOwn _ _ _ _ _
   rw [← hw6.out]
   exact row_block HOWN.out fun b hb => Below.heap_setCell _ _ _ _ (fun e => by
    have e' : b = w.heap.size := e
    obtain ⟨cur, hcur⟩ := row_type (World.ownsRow.mono HOWN.out (Nat.zero_le _)) hb
    rw [e', (hAx.out w5 HB5.out).1] at hcur
    injection hcur with hcur
    injection hcur with _ hcur _
    exact absurd hcur (by decide))
  have e0 := cell_row hx6 0 _ rfl
  have e1 := cell_row hx6 1 _ rfl
  clear hx6
  rw [hw6.out]
  go_wp2_with (refine wpList_store_row rfl 29 (.tmp 6) (.tmp 24) rfl (w.heap.size + 1) (treeV pe (k + n' + (n - k)) pf next) rfl rfl 29 zeroT HY6.out (by kernel_rfl) rfl (treeV_one _ _ _ _) ?_)
  try simp only [Exit.inBlock, Exit.then]
  refine bodyPost_ret (results_cell_row Tryz.results86 _ _ (w.heap.size + 1) 29 (treeV pe (k + n' + (n - k)) pf next) (0, 0) _ rfl (setRow_heap _ _ _ _ _ _ HY6.out) Tryz.underlying29 rfl (by kernel_rfl)) rfl ?_
  refine ⟨pe, pf, T.take k ++ T' ++ T.drop k, by rw [HL6.out]; rfl, HMS.out, row_block HOWN6.out fun b hb => setRow_other _ _ _ _ (fun e => ?_), HAT.out, ?_⟩
  ·obtain ⟨cur, hcur⟩ := row_type (World.ownsRow.mono HOWN6.out (Nat.zero_le _)) hb
   rw [e, HY6.out] at hcur
   injection hcur with hcur
   injection hcur with _ hcur _
   exact absurd hcur (by decide)
  ·have h1 := HB6.out
   exact ⟨h1.os, h1.tape, h1.output, by rw [setRow_size]; exact h1.size, fun b hb => (setRow_other _ _ _ _ (by omega)).trans (h1.block b hb)⟩
end
end Go.Proofs.YtmkgajdgnmolkaaGreat
