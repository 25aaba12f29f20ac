/-
  Trees: a tree cloned.
-/
import Derived.Test.YtmkgajdgnmolkaaGreatT1
import Derived.Test.YtmkgajdgnmolkaaGreatT7
import Derived.Test.YtmkgajdgnmolkaaGreatT3
import Derived.Maps.RangeWalk
namespace Go.Proofs.YtmkgajdgnmolkaaGreat
open Go.RowKit Go.Shelf
section
variable {w : World} {t mb : Nat} {y : Lay} {g : Int → Option Ent} {root next : Int} {n : Nat}
theorem TreeAt.add2 (h : TreeAt w t mb y g root next n) {p : Int} (hp : g p = none) (e : Ent) (q : Nat) (a k : Value) {w1 w2 : World} (hb : Below w.heap.size w w1)
  (hq : w.heap.size ≤ q) (hnode : w1.heap[q]? = some (.cells (nodeC p e a k) 92 (0, 0))) (hatt : attRow w1 a e.d.attrs) (ha : ∀ b, a.ownBlock = some b → w.heap.size ≤ b) (hkid : intRow w1 k e.kids) (hk : ∀ b, k.ownBlock = some b → w.heap.size ≤ b)
  (hmap : MapG w2 mb (fset (fun id => (g id).map fun _ => y.nb id) p (some q)) (n + 1)) (hg : w1.grownBy w2 (some mb)) :
  TreeAt w2 t mb { nb := fset y.nb p q, att := fset y.att p a, kid := fset y.kid p k } (fset g p (some e)) root next (n + 1) ∧
  (∀ b, Mine t mb { nb := fset y.nb p q, att := fset y.att p a, kid := fset y.kid p k } (fset g p (some e)) b → Mine t mb y g b ∨ w.heap.size ≤ b) := by
 have h1 : TreeAt w1 t mb y g root next n := h.below hb
 have hlt := fun b hb => h1.lt (b := b) hb
 have same : ∀ b, b < w1.heap.size → b ≠ mb → w2.heap[b]? = w1.heap[b]? := fun b h0 hne => hg.block b h0 (fun e0 => hne (by injection e0))
 have hgs : ∀ id e0, fset g p (some e) id = some e0 → (id = p ∧ e0 = e) ∨ (id ≠ p ∧ g id = some e0) := fun id e0 h0 => by
  by_cases hid : id = p
  ·subst hid; rw [fset_same] at h0; injection h0 with h0; exact .inl ⟨rfl, h0.symm⟩
  ·rw [fset_other _ _ hid] at h0; exact .inr ⟨hid, h0⟩
 have hqm : q ≠ mb := fun e0 => by have := h.map.lt; omega
 have hrow : ∀ {B : Nat} {ty : TypeId} {size : Nat} {v : Value} {m : Nat} {xs : List Value}, w1.ownsRow B ty size v m xs → w2.ownsRow B ty size v m xs := fun {B ty size v m xs} hr =>
  row_block hr fun b hb0 => same b (row_lt hr hb0) (fun e0 => by
   obtain ⟨es, clock, ho⟩ := h1.map.obj
   exact row_not hr (e0 ▸ ho) (fun _ hc => by cases hc) hb0)
 have old : ∀ id e0, g id = some e0 → y.nb id < w.heap.size ∧ (∀ b, (y.att id).ownBlock = some b → b < w.heap.size) ∧ (∀ b, (y.kid id).ownBlock = some b → b < w.heap.size) := fun id e0 h0 =>
  ⟨h.lt (.inr (.inr ⟨id, e0, h0, .inl rfl⟩)), fun b hb0 => h.lt (.inr (.inr ⟨id, e0, h0, .inr (.inl hb0)⟩)), fun b hb0 => h.lt (.inr (.inr ⟨id, e0, h0, .inr (.inr hb0)⟩))⟩
 refine ⟨⟨?_, ?_, ?_, ?_, ?_, ?_⟩, ?_⟩
 ·rw [same t (hlt t (.inl rfl)) h.t_not.1]; exact h1.tree
 ·refine (congrArg (fun f => MapG w2 mb f (n + 1)) (funext fun id => ?_)).mp hmap
  by_cases hid : id = p
  ·subst hid; simp only [fset_same]; rfl
  ·simp only [fset_other _ _ hid]
 ·intro id e0 h0
  rcases hgs id e0 h0 with ⟨rfl, rfl⟩ | ⟨hid, h0'⟩
  ·simp only [fset_same]
   rw [same q (Array.getElem?_eq_some_iff.1 hnode).1 hqm]; exact hnode
  ·simp only [fset_other _ _ hid]
   rw [same _ (hlt _ (.inr (.inr ⟨id, e0, h0', .inl rfl⟩))) (Ne.symm (h1.mb_not id e0 h0').1)]; exact h1.node id e0 h0'
 ·intro id e0 h0
  rcases hgs id e0 h0 with ⟨rfl, rfl⟩ | ⟨hid, h0'⟩
  ·simp only [fset_same]; exact hrow hatt
  ·simp only [fset_other _ _ hid]; exact hrow (h1.att id e0 h0')
 ·intro id e0 h0
  rcases hgs id e0 h0 with ⟨rfl, rfl⟩ | ⟨hid, h0'⟩
  ·simp only [fset_same]; exact hrow hkid
  ·simp only [fset_other _ _ hid]; exact hrow (h1.kid id e0 h0')
 ·intro id id' e0 e1 h0 h1' hne
  rcases hgs id e0 h0 with ⟨rfl, rfl⟩ | ⟨hid, h0'⟩
  ·rcases hgs id' e1 h1' with ⟨rfl, rfl⟩ | ⟨hid', h1''⟩
   ·exact absurd rfl hne
   ·simp only [fset_same, fset_other _ _ hid']
    obtain ⟨o1, o2, o3⟩ := old id' e1 h1''
    refine ⟨by omega, ?_, ?_⟩
    ·cases hab : a.ownBlock with
     | none => exact .inl hab
     | some b => exact .inr (fun e2 => by have := ha b hab; rw [hab] at e2; have := o2 b e2.symm; omega)
    ·cases hab : k.ownBlock with
     | none => exact .inl hab
     | some b => exact .inr (fun e2 => by have := hk b hab; rw [hab] at e2; have := o3 b e2.symm; omega)
  ·rcases hgs id' e1 h1' with ⟨rfl, rfl⟩ | ⟨hid', h1''⟩
   ·simp only [fset_same, fset_other _ _ hid]
    obtain ⟨o1, o2, o3⟩ := old id e0 h0'
    refine ⟨by omega, ?_, ?_⟩
    ·cases hab : (y.att id).ownBlock with
     | none => exact .inl hab
     | some b => exact .inr (fun e2 => by rw [hab] at e2; have := ha b e2.symm; have := o2 b hab; omega)
    ·cases hab : (y.kid id).ownBlock with
     | none => exact .inl hab
     | some b => exact .inr (fun e2 => by rw [hab] at e2; have := hk b e2.symm; have := o3 b hab; omega)
   ·simp only [fset_other _ _ hid, fset_other _ _ hid']
    exact h.apart id id' e0 e1 h0' h1'' hne
 ·intro b hb0
  rcases hb0 with rfl | rfl | ⟨id, e0, h0, hb0⟩
  ·exact .inl (.inl rfl)
  ·exact .inl (.inr (.inl rfl))
  ·rcases hgs id e0 h0 with ⟨rfl, rfl⟩ | ⟨hid, h0'⟩
   ·simp only [fset_same] at hb0
    rcases hb0 with rfl | hb0 | hb0
    ·exact .inr hq
    ·exact .inr (ha b hb0)
    ·exact .inr (hk b hb0)
   ·simp only [fset_other _ _ hid] at hb0
    exact .inl (.inr (.inr ⟨id, e0, h0', hb0⟩))
end
set_option maxRecDepth 100000 in
set_option maxHeartbeats 1000000 in
theorem CloneI_any (l : List Int) (A : Option Addr) (c : Nat) (w : World) (hA : intRow w (.slice A l.length c) l) (hl : l.length ≤ 1000000) :
  Calls Tryz.prog 62 #[.slice A l.length c] w fun e w' => ∃ A' c', e = .returned (.slice A' l.length c') ∧ intRow w' (.slice A' l.length c') l ∧ (∀ b, (Value.slice A' l.length c').ownBlock = some b → w.heap.size ≤ b) ∧ Below w.heap.size w w' := by
 have keql := fun (w' : World) => Lib.run_eql_slice_nil (P := Tryz.prog) w' 43 3 A l.length c 0 0 Tryz.underlying43
 obtain ⟨_, _, hv, _, _, hn, hs⟩ := row_shape hA
 injection hv with e1 _ e3
 subst e1
 subst e3
 cases A with
 | none =>
  have h0 := (hn rfl).1
  have hnil := List.eq_nil_of_length_eq_zero h0
  clear hA keql hs hn
  subst hnil
  have keql := fun (w' : World) => Lib.run_eql_slice_nil (P := Tryz.prog) w' 43 3 none 0 c 0 0 Tryz.underlying43
  go_enter Tryz.func62, Tryz.ntmps62
  go_wp2_with fail
  go_ret
  exact ⟨none, 0, rfl, ⟨by simp, .inl ⟨rfl, rfl⟩⟩, fun b hb => by simp [Value.ownBlock] at hb, Below.refl _ _⟩
 | some ad =>
  obtain ⟨gb, rfl, hgb⟩ := hs ad rfl
  have HA := Lib.hid hA
  clear hA hn hs
  go_enter Tryz.func62, Tryz.ntmps62
  obtain ⟨i0, hi0, hz0, hz1, hz2⟩ := info_parts infoInt
  have hown : (w.alloc (.cells #[] 3)).ownsRow w.heap.size 3 1 (.slice (some ⟨w.heap.size, 0, none⟩) 0 0) 0 [] :=
   ⟨by simp, .inr ⟨w.heap.size, 0, #[], rfl, Nat.le_refl _, heap_alloc_new w _, Nat.le_refl _, by decide, by simp, by simp⟩⟩
  go_wp2_with (at_builtin; go_loud (refine wpList_append_own _ rfl (.tmp 5) (.tmp 6) 43 rfl w.heap.size 3 i0 (.int .i64 0) 1 8 Tryz.underlying43 hi0 hz0 hz1 hz2 rfl (by decide) _ 0 [] rfl hown ⟨gb, 0, none⟩ l.length c (l.map (Value.int .i64)) rfl (by simp) ?c1 (by simp [Value.oneCell']) ?c2 ?c3 (by simp) ?c4))
  case c1 =>
   intro j u hu
   have hu' : l[j]? = some u := by simpa using hu
   have h5 := own_cell HA.out j (.int .i64 u) (by rw [List.getElem?_map, hu']; rfl)
   simpa using h5
  case c2 => unfold maxLen; omega
  case c3 => omega
  case c4 =>
   intro v' w' hown' hg _
   obtain ⟨A', c', rfl⟩ : ∃ A' c', v' = .slice A' l.length c' := by
    rcases hown'.2 with ⟨h1, h2⟩ | ⟨g, c, cur, hv, _⟩
    ·exact ⟨none, 0, by rw [h2]; exact h1⟩
    ·exact ⟨_, c, hv⟩
   have hown2 : w'.ownsRow w.heap.size 3 1 (.slice A' l.length c') l.length (l.map (Value.int .i64)) := by simpa using hown'
   go_wp2_with fail
   go_ret
   exact ⟨A', c', rfl, World.ownsRow.mono hown2 (Nat.zero_le _), fun b hb => (hown2.lt b hb).1, ((Below.refl _ w).alloc (Nat.le_refl _) _).grown hg (by simp) (fun k hk => (hown.lt k hk).1)⟩
def cntG (gs : Int → Option Ent) (ids : List Int) : Nat := (ids.filter fun id => (gs id).isSome).length
theorem cntG_set {gs : Int → Option Ent} {x : Int} {e : Ent} (hno : gs x = none) : ∀ (ids : List Int), ids.Nodup → cntG (fset gs x (some e)) ids = cntG gs ids + (if x ∈ ids then 1 else 0)
 | [], _ => rfl
 | a :: ids, hn => by
  have ih := cntG_set (e := e) hno ids (List.nodup_cons.1 hn).2
  unfold cntG at ih ⊢
  by_cases ha : a = x
  ·subst ha
   have hna := (List.nodup_cons.1 hn).1
   rw [if_neg hna] at ih
   simp [fset_same, hno, ih]
  ·simp only [List.filter_cons, fset_other _ _ ha]
   have hm : (x ∈ a :: ids) ↔ x ∈ ids := by simp [Ne.symm ha]
   by_cases hs : (gs a).isSome = true
   ·rw [if_pos hs, if_pos hs, List.length_cons, List.length_cons, ih]
    by_cases hx : x ∈ ids
    ·rw [if_pos hx, if_pos (hm.2 hx)]
    ·rw [if_neg hx, if_neg (fun h => hx (hm.1 h))]
   ·rw [if_neg hs, if_neg hs, ih]
    by_cases hx : x ∈ ids
    ·rw [if_pos hx, if_pos (hm.2 hx)]
    ·rw [if_neg hx, if_neg (fun h => hx (hm.1 h))]
theorem cntG_all {gs : Int → Option Ent} {ids : List Int} (h : ∀ x ∈ ids, (gs x).isSome = true) : cntG gs ids = ids.length := by
 unfold cntG
 rw [List.filter_eq_self.2 h]
theorem inv_ptr (v : Value) (y : DataW Unit × List MemPlace) (h : ptrElem v = some y) : ∃ c : Option Nat, v = ptrOf c := by
 unfold ptrElem at h
 split at h
 ·exact ⟨none, rfl⟩
 ·rename_i b; exact ⟨some b, rfl⟩
 ·cases h
theorem inv_key (key : Value) (kl : Lit) (h : keyOf Tryz.prog 3 key = some kl) : ∃ x, key = Value.int .i64 x := by
 obtain ⟨x, rfl, _⟩ := Maps.keyOf_int_inv Tryz.underlying3 h
 exact ⟨x, rfl⟩
set_option maxRecDepth 100000 in
set_option maxHeartbeats 8000000 in
theorem Clone_in {M : Nat → Prop} {t : Nat} {f : Fo} {next : Int} {w : World} (h : TreeM M t f next w) :
  Calls Tryz.prog 32 #[.pointer (some ⟨t, 0, none⟩)] w fun e w' => ∃ t' M', e = .returned (.pointer (some ⟨t', 0, none⟩)) ∧ TreeM M' t' f next w' ∧ (∀ b, M' b → w.heap.size ≤ b) ∧ Below w.heap.size w w' := by
 obtain ⟨mb, y, hT, hi, _, _⟩ := h
 obtain ⟨D, hown, hsz, hf⟩ := hT.map
 have hmm := @run_makeMap Tryz.prog
 have HT := Lib.hid hT
 have HI := Lib.hid hi
 have HF := Lib.hid hf
 have HSZ := Lib.hid hsz
 have HML : Hid (mb < w.heap.size) := hT.map.lt
 have HTL : Hid (t < w.heap.size) := hT.lt (.inl rfl)
 have HSW : Hid (∀ W : World, Below w.heap.size w W → W.cell? ⟨t, 0, none⟩ = some (.map (some mb)) ∧ W.cell? ⟨t, 1, none⟩ = some (.int .i64 (rootF f)) ∧ W.cell? ⟨t, 2, none⟩ = some (.int .i64 next)) := fun W hb => ⟨(HT.out.below hb).c0, (HT.out.below hb).c1, (HT.out.below hb).c2⟩
 clear hT hi hf hsz
 go_enter Tryz.func32, Tryz.ntmps32
 go_upto_region 1 with (fail)
 have hbd : Below w.heap.size w w.drew := ⟨rfl, rfl, rfl, Nat.le_refl _, fun _ _ => rfl⟩
 have hS := HSW.out w.drew hbd
 refine wp_region_held_drew (S := fun W => W.cell? ⟨t, 0, none⟩ = some (.map (some mb)) ∧ W.cell? ⟨t, 1, none⟩ = some (.int .i64 (rootF f)) ∧ W.cell? ⟨t, 2, none⟩ = some (.int .i64 next)) (by kernel_rfl) hS (fun hHeld => ?_)
 clear hS
 refine tkv 1 (h := tkv 2 (h := tkv 3 (h := tkv 4 (h := tkv 5 (h := tkv 6 (h := ?_))))))
 refine tkv 7 (h := tkv 8 (h := ?_))
 refine rdy 0 (fun K hK => ?_)
 go_simp
 obtain ⟨v1, hv1⟩ : ∃ v1, Hid (v1 = (w.alloc (.map #[] 0)).drew) := ⟨_, rfl⟩
 have hba : Below w.heap.size w (w.alloc (.map #[] 0)) := (Below.refl _ w).alloc (Nat.le_refl _) _
 have hb1 : Below w.heap.size w v1 := by rw [hv1.out]; exact hba.trans ⟨rfl, rfl, rfl, Nat.le_refl _, fun _ _ => rfl⟩
 have hz1 : v1.heap.size = w.heap.size + 1 := by rw [hv1.out]; show (w.alloc (.map #[] 0)).heap.size = _; simp
 have hm1 : MapG v1 w.heap.size (fun _ => none) 0 := by rw [hv1.out]; exact (MapG.new w).keep rfl
 rw [← hv1.out]
 refine hK.out _ _ (HSW.out v1 hb1) (fun hHeld => ?_)
 clear hK K
 try go_frame
 refine tkv 9 (h := ?_)
 refine rdy 10 (fun K hK => ?_)
 go_simp
 obtain ⟨v2, hv2⟩ : ∃ v2, Hid (v2 = v1.alloc (.cells #[.map (some w.heap.size), .int .i64 (rootF f), .int .i64 next] 75)) := ⟨_, rfl⟩
 have hb2 : Below w.heap.size w v2 := by rw [hv2.out]; exact hb1.alloc hb1.size _
 have hz2 : v2.heap.size = w.heap.size + 2 := by rw [hv2.out]; simp [hz1]
 have hm2 : MapG v2 w.heap.size (fun _ => none) 0 := hm1.keep (by rw [hv2.out]; exact Below.heap_alloc _ _ _ (by omega))
 have ht2 : v2.heap[w.heap.size + 1]? = some (.cells (treeC w.heap.size (rootF f) next) 75 (0, 0)) := by
  rw [hv2.out, ← hz1]
  exact heap_alloc_new v1 _
 have hT2 : TreeAt v2 (w.heap.size + 1) w.heap.size ⟨fun _ => 0, fun _ => .slice none 0 0, fun _ => .slice none 0 0⟩ (fun _ => none) (rootF f) next 0 := ⟨ht2, hm2, fun _ _ h => (by cases h), fun _ _ h => (by cases h), fun _ _ h => (by cases h), fun _ _ _ _ h => (by cases h)⟩
 rw [← hv2.out]
 refine hK.out _ _ (HSW.out v2 hb2) (fun hHeld => ?_)
 clear hK K
 try go_frame
 refine tkv 11 (h := ?_)
 refine wpAnyH_done (by kernel_rfl) ?_ _
 have HB2 := Lib.hid hb2
 have HT2 := Lib.hid hT2
 have HZ2 := Lib.hid hz2
 have hown2 : v2.ownsMap Tryz.prog 3 ptrElem mb f.cnt D := by
  obtain ⟨es, clock, hbk, F, hs, hD⟩ := hown
  exact ⟨es, clock, (hb2.block mb HML.out).trans hbk, F, hs, hD⟩
 have c0 := (HSW.out v2 hb2).1
 clear hb1 hz1 hm1 hb2 hz2 hm2 ht2 hT2 hba hown hbd
 go_wp2_with (first
  | (at_range; refine wpList_range_own _ rfl _ 73 rfl 3 90 keyedI Tryz.underlying73 ptrElem mb f.cnt D rfl hown2 ?_; intro w0 hrg0 hg0 hs0)
  | fail)
 try go_frame
 rw [HZ2.out] at hrg0 hs0 ⊢
 have hbw0 : Below w.heap.size w w0 := HB2.out.grown hg0 HB2.out.size (fun j hj => by cases hj)
 have hT0 : TreeAt w0 (w.heap.size + 1) w.heap.size ⟨fun _ => 0, fun _ => .slice none 0 0, fun _ => .slice none 0 0⟩ (fun _ => none) (rootF f) next 0 := HT2.out.keep fun b hb => hg0.block b (HT2.out.lt hb) (by simp)
 have HBW0 := Lib.hid hbw0
 have HT0 := Lib.hid hT0
 have HS0 := Lib.hid hs0
 clear hbw0 hT0 hg0 hs0 c0 hown2
 go_loopw [4] (fun _ wr => ∃ (left : Lit → Bool) (cnt : Nat) (gs : Int → Option Ent) (ys : Lay), wr.ranges Tryz.prog 3 ptrElem mb (w.heap.size + 2) f.cnt D left cnt ∧ Hid (TreeAt wr (w.heap.size + 1) w.heap.size ys gs (rootF f) next (cntG gs f.ids)) ∧ Hid (∀ id, wfI id → gs id = if left (.int .i64 id) = true then none else f.ent 0 id) ∧ Hid (∀ id, ¬ wfI id → gs id = none) ∧
   Hid (∀ b, Mine (w.heap.size + 1) w.heap.size ys gs b → w.heap.size ≤ b ∧ b ≠ w.heap.size + 2) ∧ Hid (Below w.heap.size w wr) ∧ Hid (w.heap.size + 3 ≤ wr.heap.size)) (fun _ wr => wr.rangeLeft mb (w.heap.size + 2))
 case atStart =>
  have hz : cntG (fun _ => none) f.ids = 0 := by unfold cntG; simp
  refine ⟨_, _, fun _ => none, _, hrg0, by rw [hz]; exact HT0.out, fun id hid => ?_, fun id _ => rfl, fun b hb => ?_, HBW0.out, by have := HS0.out; show _ ≤ _; omega⟩
  ·by_cases hh : Maps.has D (.int .i64 id) = true
   ·rw [if_pos hh]
   ·rw [if_neg hh]
    cases he : f.ent 0 id with
    | none => rfl
    | some e =>
     have := (HF.out id hid).2 (y.nb id) (by simp [he])
     exact absurd (Maps.has_true_of_atKey this) hh
  ·rcases hb with rfl | rfl | ⟨_, _, h, _⟩
   ·omega
   ·omega
   ·cases h
 case round =>
  obtain ⟨left, cnt, gs, ys, hrg, hst, hgs, hgn, hmi, hbl, hsz⟩ := hrel
  go_wp2_with (first
   | (at_next; refine wpList_next_ranges _ rfl _ rfl 3 keyedI ptrElem (Value.int .i64) ptrOf inv_key inv_ptr mb (w.heap.size + 2) f.cnt _ _ _ rfl hrg ?_ ?_)
   | fail)
  ·intro hc0 hl0
   have hgg : gs = f.ent 0 := by
    funext id
    by_cases hw : wfI id
    ·rw [hgs.out id hw, hl0]; rfl
    ·rw [hgn.out id hw]
     cases he : f.ent 0 id with
     | none => rfl
     | some e => exact absurd (HI.out.wf _ _ he) hw
   have hcc : cntG gs f.ids = f.cnt := by
    rw [hgg, cntG_all (fun x hx => by obtain ⟨e, he⟩ := Fo.ent_some f 0 x hx; rw [he]; rfl), Fo.ids_len]
   have hst' := hst.out
   rw [hcc, hgg] at hst'
   have HSF := Lib.hid hst'
   rw [hgg] at hmi
   clear hst' hgg hcc hst hgs hgn
   go_wp2_with fail
   go_ret
   exact ⟨w.heap.size + 1, Mine (w.heap.size + 1) w.heap.size ys (f.ent 0), rfl, ⟨w.heap.size, ys, HSF.out, HI.out, fun b hb => hb, fun b hb => HSF.out.lt hb⟩, fun b hb => (hmi.out b hb).1, hbl.out⟩
  ·intro x c kl yy1 yy2 w1 cnt1 hkey hlx hR hat hrg1 hlt1 hg1 hs1 hen
   obtain ⟨x', ex, hkl, hwx⟩ := Maps.keyOf_int_inv Tryz.underlying3 hkey
   cases ex
   subst hkl
   have hw : wfI x := by
    simp [Lit.wf, IntKind.min, IntKind.max, IntKind.signed, IntKind.bits] at hwx
    exact ⟨by omega, by omega⟩
   have hhas := Maps.has_true_of_atKey hat
   obtain ⟨e, he⟩ : ∃ e, f.ent 0 x = some e := by
    cases he : f.ent 0 x with
    | some e => exact ⟨e, rfl⟩
    | none =>
     have := (HF.out x hw).1 (by simp [he])
     rw [hhas] at this
     cases this
   have hyb : yy1 = .lit (.int .i64 (y.nb x)) := by
    rw [← hat .nil]
    exact (HF.out x hw).2 (y.nb x) (by simp [he]) .nil
   rw [hyb] at hR
   have hc : ptrOf c = .pointer (some ⟨y.nb x, 0, none⟩) := ptrElem_inv hR
   rw [hc] at hen ⊢
   have hb1 : Below w.heap.size w w1 := hbl.out.grown hg1 hbl.out.size (fun j hj => by cases hj; omega)
   have hst1 := hst.out.keep (w' := w1) fun b hb => hg1.block b (hst.out.lt hb) (fun e' => by have := (hmi.out b hb).2; injection e' with e'; omega)
   have hgx : gs x = none := by rw [hgs.out x hw, if_pos hlx]
   have hT1 := HT.out.below hb1
   have hn := hT1.node x e he
   obtain ⟨A0, c0, hA0, _⟩ := row_shape (hT1.att x e he)
   obtain ⟨K0, k0, hK0, _⟩ := row_shape (hT1.kid x e he)
   have hatr := hT1.att x e he
   have hkdr := hT1.kid x e he
   rw [hA0] at hn hatr
   rw [hK0] at hn hkdr
   unfold nodeC strV at hn
   have n0 := cell_row hn 0 _ rfl
   have n1 := cell_row hn 1 _ rfl
   have n2 := cell_row hn 2 _ rfl
   have n3 := cell_row hn 3 _ rfl
   have n4 := cell_row hn 4 _ rfl
   have n5 := cell_row hn 5 _ rfl
   have n6 := cell_row hn 6 _ rfl
   have n7 := cell_row hn 7 _ rfl
   have HNB : Hid (y.nb x < w1.heap.size) := (Array.getElem?_eq_some_iff.1 hn).1
   have hns : w.heap.size + 3 ≤ w1.heap.size := by rw [hs1]; exact hsz.out
   obtain ⟨N, hN⟩ : ∃ N, Hid (w1.heap.size = N) := ⟨_, rfl⟩
   obtain ⟨w2, hw2⟩ : ∃ w2, Hid (w2 = w1.alloc (.cells #[.int .i64 x, .int .i64 e.par, .int .i64 e.d.kind, .int .i64 0, .string ⟨e.d.name.toArray⟩, .string ⟨e.d.text.toArray⟩, .slice A0 e.d.attrs.length c0, .slice K0 e.kids.length k0] 92)) := ⟨_, rfl⟩
   have hb12 : Below w1.heap.size w1 w2 := by rw [hw2.out]; exact (Below.refl _ w1).alloc (Nat.le_refl _) _
   have hx2 : w2.heap[N]? = some (.cells #[.int .i64 x, .int .i64 e.par, .int .i64 e.d.kind, .int .i64 0, .string ⟨e.d.name.toArray⟩, .string ⟨e.d.text.toArray⟩, .slice A0 e.d.attrs.length c0, .slice K0 e.kids.length k0] 92 (0, 0)) := by rw [hw2.out, ← hN.out]; exact heap_alloc_new w1 _
   have HNZ : Hid (N < w2.heap.size) := by show _ < _; rw [hw2.out, ← hN.out]; simp
   have HX2 := Lib.hid hx2
   have HB12 := Lib.hid hb12
   have HN0 := Lib.hid hn
   have HATR := Lib.hid hatr
   have HKDR := Lib.hid hkdr
   have HB1 := Lib.hid hb1
   have HST1 := Lib.hid hst1
   have HGX := Lib.hid hgx
   have HE := Lib.hid he
   have HW := Lib.hid hw
   have HNS := Lib.hid hns
   have HLX := Lib.hid hlx
   have HAL : Hid (e.d.attrs.length ≤ 1000000000) := by have := HI.out.attrs x e he; show _ ≤ _; omega
   have HKL : Hid (e.kids.length ≤ 1000000) := by have := HI.out.kidsN x e he; show _ ≤ _; omega
   clear hx2 hb12 hn hatr hkdr hb1 hst1 hgx he hhas hR hat hkey hA0 hK0 hT1 hns hwx hc hs1
   go_upto_region 6 with (fail)
   rw [← hw2.out, hN.out]
   clear n0 n1 n2 n3 n4 n5 n6 n7 hen
   have HSN : Hid (∀ W : World, Below w1.heap.size w1 W → W.cell? ⟨y.nb x, 6, none⟩ = some (.slice A0 e.d.attrs.length c0) ∧ W.cell? ⟨y.nb x, 7, none⟩ = some (.slice K0 e.kids.length k0)) := fun W hb => by
    have h := (hb.block (y.nb x) HNB.out).trans HN0.out
    exact ⟨cell_row h 6 _ rfl, cell_row h 7 _ rfl⟩
   have hbd : Below w1.heap.size w1 w2.drew := HB12.out.trans ⟨rfl, rfl, rfl, Nat.le_refl _, fun _ _ => rfl⟩
   have hS := HSN.out w2.drew hbd
   refine wp_region_held_drew (S := fun W => W.cell? ⟨y.nb x, 6, none⟩ = some (.slice A0 e.d.attrs.length c0) ∧ W.cell? ⟨y.nb x, 7, none⟩ = some (.slice K0 e.kids.length k0)) (by kernel_rfl) hS (fun hHeld => ?_)
   clear hS
   refine tkv 0 (h := tkv 1 (h := tkv 2 (h := tkv 3 (h := ?_))))
   refine tkv 5 (h := tkv 6 (h := tkv 7 (h := tkv 8 (h := tkv 9 (h := ?_)))))
   obtain ⟨w3, hw3⟩ : ∃ w3, Hid (w2.drew = w3) := ⟨_, rfl⟩
   have HX3 : Hid (w3.heap[N]? = some (.cells #[.int .i64 x, .int .i64 e.par, .int .i64 e.d.kind, .int .i64 0, .string ⟨e.d.name.toArray⟩, .string ⟨e.d.text.toArray⟩, .slice A0 e.d.attrs.length c0, .slice K0 e.kids.length k0] 92 (0, 0))) := by show _ = _; rw [← hw3.out]; exact HX2.out
   have HNZ3 : Hid (N < w3.heap.size) := by show _ < _; rw [← hw3.out]; exact HNZ.out
   rw [hw3.out] at hbd ⊢
   have HB13 := Lib.hid hbd
   clear hbd
   refine rdy 4 (fun K hK => ?_)
   go_simp
   refine (CloneI_any e.kids K0 k0 w3 (row_block HKDR.out fun b hb => HB13.out.block b (row_lt HKDR.out hb)) HKL.out).mono ?_
   rintro e4 w4 ⟨K4, k4, rfl, hk4, hkf4, hb4⟩
   have HB14 : Hid (Below w1.heap.size w1 w4) := HB13.out.trans (hb4.mono HB13.out.size)
   have HX4 : Hid (w4.heap[N]? = some (.cells #[.int .i64 x, .int .i64 e.par, .int .i64 e.d.kind, .int .i64 0, .string ⟨e.d.name.toArray⟩, .string ⟨e.d.text.toArray⟩, .slice A0 e.d.attrs.length c0, .slice K0 e.kids.length k0] 92 (0, 0))) := (hb4.block N HNZ3.out).trans HX3.out
   have HNZ4 : Hid (N < w4.heap.size) := Nat.lt_of_lt_of_le HNZ3.out hb4.size
   have HK4 := Lib.hid hk4
   have HKF4 : Hid (∀ b, (Value.slice K4 e.kids.length k4).ownBlock = some b → N < b) := fun b hb => by have := hkf4 b hb; have := HNZ3.out; omega
   clear hb4 hk4 hkf4
   refine hK.out _ _ (HSN.out w4 HB14.out) (fun hHeld => ?_)
   clear hK K
   try go_frame
   refine rdy 10 (fun K hK => ?_)
   go_simp
   have hatw : attRow w4 (.slice A0 e.d.attrs.length c0) e.d.attrs := row_block HATR.out fun b hb => HB14.out.block b (row_lt HATR.out hb)
   refine (Clone_any e.d.attrs A0 c0 w4 (AttrsOwn.at hatw) HAL.out).mono ?_
   rintro e5 w5 ⟨A5, c5, rfl, ha5, hb5⟩
   have HB15 : Hid (Below w1.heap.size w1 w5) := HB14.out.trans (hb5.mono HB14.out.size)
   have HX5 : Hid (w5.heap[N]? = some (.cells #[.int .i64 x, .int .i64 e.par, .int .i64 e.d.kind, .int .i64 0, .string ⟨e.d.name.toArray⟩, .string ⟨e.d.text.toArray⟩, .slice A0 e.d.attrs.length c0, .slice K0 e.kids.length k0] 92 (0, 0))) := (hb5.block N HNZ4.out).trans HX4.out
   have HK5 : Hid (intRow w5 (.slice K4 e.kids.length k4) e.kids) := row_block HK4.out fun b hb => hb5.block b (row_lt HK4.out hb)
   have HA5 := Lib.hid ha5
   have HAF5 : Hid (∀ b, (Value.slice A5 e.d.attrs.length c5).ownBlock = some b → N < b) := fun b hb => by have := (ha5.lt b hb).1; have := HNZ4.out; omega
   have f7 := free_row HX5.out 7
   have o7 := cell_row HX5.out 7 _ rfl
   clear hb5 ha5 hatw
   refine hK.out _ _ (HSN.out w5 HB15.out) (fun hHeld => ?_)
   clear hK K
   try go_frame
   refine tkv 11 (h := ?_)
   refine rdy 12 (fun K hK => ?_)
   go_simp
   obtain ⟨w6, hw6⟩ : ∃ w6, Hid (w5.setCell ⟨N, 7, none⟩ (.slice K4 e.kids.length k4) = w6) := ⟨_, rfl⟩
   have HX6 : Hid (w6.heap[N]? = some (.cells #[.int .i64 x, .int .i64 e.par, .int .i64 e.d.kind, .int .i64 0, .string ⟨e.d.name.toArray⟩, .string ⟨e.d.text.toArray⟩, .slice A0 e.d.attrs.length c0, .slice K4 e.kids.length k4] 92 (0, 0))) := by show _ = _; rw [← hw6.out]; exact Lib.heap_setCell_same (i := 7) HX5.out _
   have HB16 : Hid (Below w1.heap.size w1 w6) := by show Below _ _ _; rw [← hw6.out]; exact HB15.out.setCell (by rw [hN.out]; exact Nat.le_refl _) _
   have hoth6 : ∀ b, b ≠ N → w6.heap[b]? = w5.heap[b]? := fun b hb => by rw [← hw6.out]; exact Below.heap_setCell _ _ _ _ hb
   have HK6 : Hid (intRow w6 (.slice K4 e.kids.length k4) e.kids) := row_block HK5.out fun b hb => hoth6 b (by have := HKF4.out b hb; omega)
   have HA6 : Hid (AttrsOwn w6 w4.heap.size A5 c5 e.d.attrs) := row_block HA5.out fun b hb => hoth6 b (by have := HAF5.out b hb; omega)
   have f6 := free_row HX6.out 6
   have o6 := cell_row HX6.out 6 _ rfl
   rw [hw6.out]
   clear f7 o7 hoth6
   refine hK.out _ _ (HSN.out w6 HB16.out) (fun hHeld => ?_)
   clear hK K
   try go_frame
   refine tkv 13 (h := tkv 14 (h := ?_))
   refine rdy 15 (fun K hK => ?_)
   go_simp
   obtain ⟨w7, hw7⟩ : ∃ w7, Hid (w6.setCell ⟨N, 6, none⟩ (.slice A5 e.d.attrs.length c5) = w7) := ⟨_, rfl⟩
   have HX7 : Hid (w7.heap[N]? = some (.cells (nodeC x e (.slice A5 e.d.attrs.length c5) (.slice K4 e.kids.length k4)) 92 (0, 0))) := by show _ = _; rw [← hw7.out]; exact Lib.heap_setCell_same (i := 6) HX6.out _
   have HB17 : Hid (Below w1.heap.size w1 w7) := by show Below _ _ _; rw [← hw7.out]; exact HB16.out.setCell (by rw [hN.out]; exact Nat.le_refl _) _
   have hoth7 : ∀ b, b ≠ N → w7.heap[b]? = w6.heap[b]? := fun b hb => by rw [← hw7.out]; exact Below.heap_setCell _ _ _ _ hb
   have HK7 : Hid (intRow w7 (.slice K4 e.kids.length k4) e.kids) := row_block HK6.out fun b hb => hoth7 b (by have := HKF4.out b hb; omega)
   have HA7 : Hid (attRow w7 (.slice A5 e.d.attrs.length c5) e.d.attrs) := row_block (World.ownsRow.mono HA6.out (Nat.zero_le _)) fun b hb => hoth7 b (by have := HAF5.out b hb; omega)
   rw [hw7.out]
   clear f6 o6 hoth7
   refine hK.out _ _ (HSN.out w7 HB17.out) (fun hHeld => ?_)
   clear hK K
   try go_frame
   refine wpAnyH_done (by kernel_rfl) ?_ _
   have hst7 := HST1.out.below HB17.out
   have u0 := hst7.c0
   obtain ⟨w8, hr8, hm8, hg8⟩ := hst7.map.put HW.out (by have := HI.out.cnt; have : cntG gs f.ids ≤ f.ids.length := List.length_filter_le _ _; rw [Fo.ids_len] at this; unfold maxLen; omega) (by simp [HGX.out]) N
   obtain ⟨q1, q2⟩ := HST1.out.add2 HGX.out e N (.slice A5 e.d.attrs.length c5) (.slice K4 e.kids.length k4) HB17.out (by rw [hN.out]; exact Nat.le_refl _) HX7.out HA7.out (fun b hb => by have := HAF5.out b hb; have := hN.out; omega) HK7.out (fun b hb => by have := HKF4.out b hb; have := hN.out; omega) hm8 hg8
   have hcn : cntG (fset gs x (some e)) f.ids = cntG gs f.ids + 1 := by rw [cntG_set HGX.out f.ids HI.out.nd, if_pos (Fo.ent_mem f 0 x e HE.out)]
   rw [← hcn] at q1
   have hrg7 := hrg1.kept (w' := w7) (row := none) ⟨HB17.out.os, HB17.out.tape, HB17.out.output, HB17.out.size, fun i hi' _ => HB17.out.block i hi'⟩ (by simp) (by simp)
   have hrg8 := hrg7.kept hg8 (fun e' => by injection e' with e'; have := HML.out; omega) (fun e' => by injection e' with e'; omega)
   have HQ1 := Lib.hid q1
   have HQ2 : Hid (∀ b, Mine (w.heap.size + 1) w.heap.size { nb := fset ys.nb x N, att := fset ys.att x (.slice A5 e.d.attrs.length c5), kid := fset ys.kid x (.slice K4 e.kids.length k4) } (fset gs x (some e)) b → w.heap.size ≤ b ∧ b ≠ w.heap.size + 2) := fun b hb => by
    rcases q2 b hb with h | h
    ·exact hmi.out b h
    ·have := HNS.out; omega
   have HB8 : Hid (Below w.heap.size w w8) := (HB1.out.trans (HB17.out.mono HB1.out.size)).grown hg8 (Nat.le_trans HB1.out.size HB17.out.size) (fun j hj => by cases hj; exact Nat.le_refl _)
   have HZ8 : Hid (w.heap.size + 3 ≤ w8.heap.size) := by have h1 := HNS.out; have h2 := HB17.out.size; have h3 := hg8.size; show _ ≤ _; omega
   have HGS : Hid (∀ id, wfI id → fset gs x (some e) id = if (left (.int .i64 id) && !(Lit.int .i64 id).sameKey (.int .i64 x)) = true then none else f.ent 0 id) := fun id hid => by
    by_cases hx : id = x
    ·subst hx
     rw [fset_same, HE.out]
     simp [Lit.sameKey]
    ·rw [fset_other _ _ hx, hgs.out id hid]
     simp [Lit.sameKey, hx]
   have HGN : Hid (∀ id, ¬ wfI id → fset gs x (some e) id = none) := fun id hid => by
    rw [fset_other _ _ (fun h => hid (by rw [h]; exact HW.out))]
    exact hgn.out id hid
   clear q1 q2 hcn hst7 hm8
   go_wp2_with fail
   go_roundw
   case rel => exact ⟨_, cnt1, fset gs x (some e), _, hrg8, HQ1.out, HGS.out, HGN.out, HQ2.out, HB8.out, HZ8.out⟩
   case measure => rw [hrg8.left_eq, hrg.left_eq]; exact hlt1
end Go.Proofs.YtmkgajdgnmolkaaGreat
