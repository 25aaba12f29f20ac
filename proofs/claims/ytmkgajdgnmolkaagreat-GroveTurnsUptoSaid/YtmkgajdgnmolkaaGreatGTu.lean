/-
  The law GroveTurns: what is inserted, and deleted again, leaves all as it was, but the next id; what is moved, and moved back, too.
-/
import Derived.Test.YtmkgajdgnmolkaaGreatT1
import Derived.Test.YtmkgajdgnmolkaaGreatT11
import Derived.Test.YtmkgajdgnmolkaaGreatT12
import Derived.Test.YtmkgajdgnmolkaaGreatGKdP
import Derived.Test.YtmkgajdgnmolkaaGreatGTuP
namespace Go.Proofs.YtmkgajdgnmolkaaGreat
open Go.RowKit Go.Shelf
section
variable {M : Nat → Prop} {t : Nat} {f : Fo} {next : Int} {w : World}
theorem Insert_in (h : TreeM M t f next w) {id : Int} (hw : wfI id) (pl : Int) (l : List ItemD) (A : Option Addr) (c N : Nat) (hl : ItemsAt w N A l) (hM : ∀ b, M b → N ≤ b) (hN : N ≤ w.heap.size) (hs : SmallItems l) :
  Calls Tryz.prog 29 #[.pointer (some ⟨t, 0, none⟩), .int .i64 id, .int .i64 pl, .slice A l.length c] w (DoIn M t w (insertL (f.flat 0) next id pl l)) := by
 obtain ⟨mb, y, h, hi, hm, _⟩ := h
 refine (Insert_F h hi hw pl l A c N (StandI.of hl (fun b hb => hM b (hm b hb)) hN) hN hs).mono ?_
 rintro er w' ⟨rfl, hp⟩
 exact ⟨rfl, hp.toM hm⟩
def DoEn (M : Nat → Prop) (t : Nat) (w : World) (a : Ans) (er : Ending) (w' : World) : Prop := er = .returned (.int .i64 a.2.2.2) ∧ DoM M t w a w'
theorem Delete_in (h : TreeM M t f next w) {id : Int} (hw : wfI id) : Calls Tryz.prog 30 #[.pointer (some ⟨t, 0, none⟩), .int .i64 id] w (DoEn M t w (deleteL (f.flat 0) next id)) := by
 obtain ⟨mb, y, h, hi, hm, _⟩ := h
 refine (Delete_F h hi hw).mono ?_
 rintro er w' ⟨_, rfl, hp⟩
 exact ⟨rfl, hp.toM hm⟩
theorem Move_in (h : TreeM M t f next w) {id to : Int} (hw : wfI id) (hwt : wfI to) (pl : Int) : Calls Tryz.prog 31 #[.pointer (some ⟨t, 0, none⟩), .int .i64 id, .int .i64 to, .int .i64 pl] w (DoEn M t w (moveL (f.flat 0) next id to pl)) := by
 obtain ⟨mb, y, h, hi, hm, _⟩ := h
 refine (Move_F h hi hw hwt pl).mono ?_
 rintro er w' ⟨_, rfl, hp⟩
 exact ⟨rfl, hp.toM hm⟩
end
theorem insert_no (L : List RowD) (next id pl : Int) (l : List ItemD) : (insertL L next id pl l).2.2.2 ≠ 0 → (insertL L next id pl l).1 = L ∧ (insertL L next id pl l).2.1 = next := fun h => by
 have e : doL L next ⟨1, id, 0, pl, [], [], l⟩ = insertL L next id pl l := by unfold doL; rw [if_neg (show ¬ (1 : Int) = 0 by decide), if_pos rfl]
 have := (do_ids L next ⟨1, id, 0, pl, [], [], l⟩).2.2
 rw [e] at this
 have h2 := this h
 exact ⟨congrArg (·.1) h2, congrArg (·.2.1) h2⟩
theorem move_no (L : List RowD) (next id to pl : Int) : (moveL L next id to pl).2.2.2 ≠ 0 → (moveL L next id to pl).1 = L ∧ (moveL L next id to pl).2.1 = next := fun h => by
 have e : doL L next ⟨3, id, to, pl, [], [], []⟩ = moveL L next id to pl := by unfold doL; rw [if_neg (show ¬ (3 : Int) = 0 by decide), if_neg (show ¬ (3 : Int) = 1 by decide), if_neg (show ¬ (3 : Int) = 2 by decide), if_pos rfl]
 have := (do_ids L next ⟨3, id, to, pl, [], [], []⟩).2.2
 rw [e] at this
 have h2 := this h
 exact ⟨congrArg (·.1) h2, congrArg (·.2.1) h2⟩
theorem asks2 {t : Nat} {f : Fo} {next : Int} (hi : InvF f next) {id : Int} (hw : wfI id) : ∃ (ni np nk nn : Int) (nm tx : List UInt8) (al : List AttrD) (b : Bool) (_ : Nat), al.length ≤ 1000 ∧ ((∀ e, f.ent 0 id = some e → np = e.par) ∧ wfI np) ∧
  (∀ (M : Nat → Prop) (w : World), TreeM M t f next w → Calls Tryz.prog 23 #[.pointer (some ⟨t, 0, none⟩), .int .i64 id] w (NodeP w ni np nk nn nm tx al b)) ∧ True ∧ True := by
 cases he : f.ent 0 id with
 | none =>
  refine ⟨0, 0, 0, 0, [], [], [], false, 0, by simp, ⟨(fun e h => (by cases h)), ⟨by decide, by decide⟩⟩, fun M w h => ?_, trivial, trivial⟩
  refine (Get_out h hw he).mono ?_
  rintro e w' ⟨rfl, hb⟩
  exact ⟨none, 0, rfl, fun h => absurd h (by simp), hb⟩
 | some e =>
  refine ⟨id, e.par, e.d.kind, e.kids.length, e.d.name, e.d.text, e.d.attrs, true, 0, by have := hi.attrs _ _ he; omega, ⟨(fun e' h => (by injection h with h; rw [h])), ?_⟩, fun M w h => ?_, trivial, trivial⟩
  ·rcases hi.rootOf he with ⟨_, h0⟩ | ⟨_, _, _, pe, hpe, _, _⟩
   ·rw [h0]; exact ⟨by decide, by decide⟩
   ·exact hi.wf _ _ hpe
  ·refine (Get_in h he).mono ?_
   rintro er w' ⟨A, c, rfl, ha, hb⟩
   exact ⟨A, c, rfl, AttrsOwn.at (World.ownsRow.mono ha (Nat.zero_le _)), hb⟩
def St (w0 : World) (t v : Nat) (A4 : Option Addr) (c4 : Nat) (f4 : Fo) (n4 : Int) (M : Nat → Prop) (f : Fo) (nx : Int) (w : World) : Prop :=
 TreeM M t f nx w ∧ TreeR (Off M fun _ => True) w A4 c4 (f4.flat 0) ∧ Below w0.heap.size w0 w ∧ (∀ b, M b → w0.heap.size ≤ b) ∧ ¬ M v ∧ w.heap[v]? = some (.cells (treeV A4 (f4.flat 0).length c4 n4) 29 (0, 0))
section
variable {w0 : World} {t v : Nat} {A4 : Option Addr} {c4 : Nat} {f4 : Fo} {n4 : Int} {M : Nat → Prop} {f : Fo} {nx : Int} {w w' : World}
theorem St.below (h : St w0 t v A4 c4 f4 n4 M f nx w) (hb : Below w.heap.size w w') : St w0 t v A4 c4 f4 n4 M f nx w' := by
 obtain ⟨h1, h2, h3, h4, h5, h6⟩ := h
 exact ⟨h1.below hb, h2.below hb, h3.trans (hb.mono h3.size), h4, h5, (hb.block v (Array.getElem?_eq_some_iff.1 h6).1).trans h6⟩
theorem St.grow {M' : Nat → Prop} {f' : Fo} {nx' : Int} (h : St w0 t v A4 c4 f4 n4 M f nx w) (hg : Grows M M' w w') (ht : TreeM M' t f' nx' w') : St w0 t v A4 c4 f4 n4 M' f' nx' w' := by
 obtain ⟨h1, h2, h3, h4, h5, h6⟩ := h
 have hv := (Array.getElem?_eq_some_iff.1 h6).1
 refine ⟨ht, h2.turn hg, h3.trans (hg.1.below h4 h3.size), hg.low h4 h3.size, fun hm => ?_, (hg.1.block v hv h5).trans h6⟩
 rcases hg.2 v hm with q | q
 ·exact h5 q
 ·omega
end
set_option maxRecDepth 100000 in
set_option maxHeartbeats 16000000 in
theorem walk_GroveTurns (l : List OpD) (A : Option Addr) (c : Nat) (o : OpD) (Ao : Option Addr) (co : Nat) (w : World) (hI : OpsAt w w.heap.size A l) (hS : SmallOps l) (hIo : ItemsAt w w.heap.size Ao o.l) (hLo : o.l.length ≤ co) (hSo : SmallOp o) (hBo : o.l.length ≤ 1048576) :
  Calls Tryz.prog 7 #[.slice A l.length c, .agg (opVal o Ao co)] w (Ret w (.bool true)) := by
 obtain ⟨w0, hw0⟩ : ∃ w0, Hid (w0 = w.alloc (.cells (opVal o Ao co) 36)) := ⟨_, rfl⟩
 have hb0 : Below w.heap.size w w0 := by rw [hw0.out]; exact (Below.refl _ w).alloc (Nat.le_refl _) _
 have hx0 : w0.heap[w.heap.size]? = some (.cells (opVal o Ao co) 36 (0, 0)) := by rw [hw0.out]; exact heap_alloc_new w _
 have HZ0 : Hid (w.heap.size < w0.heap.size) := by show _ < _; rw [hw0.out]; simp
 have HX0 := Lib.hid hx0
 have HB0 := Lib.hid hb0
 have HI : Hid (OpsAt w0 w0.heap.size A l) := (hI.below hb0).more hb0.size
 have HIO : Hid (ItemsAt w0 w0.heap.size Ao o.l) := (hIo.below hb0).more hb0.size
 have HSO := Lib.hid hSo
 have HS := Lib.hid hS
 have hol : (o.l.length : Int) ≤ 1048576 := by omega
 have hol0 : (0 : Int) ≤ (o.l.length : Int) := by omega
 have hOX : Hid (∀ W : World, Below w0.heap.size w0 W → W.cell? ⟨w.heap.size, 0, none⟩ = some (.int .i64 o.kind) ∧ W.cell? ⟨w.heap.size, 1, none⟩ = some (.int .i64 o.id) ∧ W.cell? ⟨w.heap.size, 2, none⟩ = some (.int .i64 o.to) ∧ W.cell? ⟨w.heap.size, 3, none⟩ = some (.int .i64 o.pl) ∧ W.cell? ⟨w.heap.size, 4, none⟩ = some (.string ⟨o.name.toArray⟩) ∧ W.cell? ⟨w.heap.size, 5, none⟩ = some (.string ⟨o.text.toArray⟩) ∧ W.cell? ⟨w.heap.size, 6, none⟩ = some (.slice Ao o.l.length co)) := fun W hb => by
  have hx := (hb.block w.heap.size HZ0.out).trans HX0.out
  exact ⟨cell_row hx 0 _ rfl, cell_row hx 1 _ rfl, cell_row hx 2 _ rfl, cell_row hx 3 _ rfl, cell_row hx 4 _ rfl, cell_row hx 5 _ rfl, cell_row hx 6 _ rfl⟩
 have hw0' := hw0.out
 unfold opVal strV at hw0'
 replace hw0 := Lib.hid hw0'
 have HLO := Lib.hid hLo
 have HBO := Lib.hid hBo
 clear hI hIo hSo hS hb0 hx0 hw0' hLo hBo
 unfold opVal strV
 go_enter Tryz.func7, Tryz.ntmps7
 go_upto_region 1 with (fail)
 rw [← hw0.out]
 go_wp2_with fail
 refine (New_in w0).mono ?_
 rintro e w1 ⟨rfl, hb1, ht1⟩
 have HB1 := Lib.hid hb1
 have HT1 := Lib.hid ht1
 have HI1 := Lib.hid (HI.out.below hb1)
 clear hb1 ht1
 go_wp2_with fail
 cases hfew : fewL l with
 | false =>
  refine (few_any l A c w0.heap.size w1 HI1.out HB1.out.size HS.out false hfew).mono ?_
  rintro e w2 ⟨rfl, hb2⟩
  have HB2 : Hid (Below w0.heap.size w0 w2) := HB1.out.trans (hb2.mono HB1.out.size)
  clear hb2
  go_wp2_with fail
  refine (alive_any w2).mono ?_
  rintro e w3 ⟨rfl, hb3⟩
  have HB3 : Hid (Below w0.heap.size w0 w3) := HB2.out.trans (hb3.mono HB2.out.size)
  clear hb3
  go_wp2_with fail
  go_ret
  exact ⟨rfl, HB0.out.trans (HB3.out.mono HB0.out.size)⟩
 | true =>
  have HFEW := Lib.hid hfew
  refine (few_any l A c w0.heap.size w1 HI1.out HB1.out.size HS.out true hfew).mono ?_
  rintro e w2 ⟨rfl, hb2⟩
  have HB2 : Hid (Below w0.heap.size w0 w2) := HB1.out.trans (hb2.mono HB1.out.size)
  have HT2 := Lib.hid (HT1.out.below hb2)
  clear hb2 hfew
  obtain ⟨d0, d1, d2, d3, d4, d5, d6⟩ := hOX.out w2 HB2.out
  obtain ⟨W3, hW3⟩ : ∃ W3, Hid (W3 = w2.alloc (.cells #[.int .i64 o.kind, .int .i64 o.id, .int .i64 o.to, .int .i64 o.pl, .string ⟨o.name.toArray⟩, .string ⟨o.text.toArray⟩, .slice Ao o.l.length co] 36)) := ⟨_, rfl⟩
  have hb3 : Below w2.heap.size w2 W3 := by rw [hW3.out]; exact (Below.refl _ w2).alloc (Nat.le_refl _) _
  have hx3 : W3.heap[w2.heap.size]? = some (.cells (opVal o Ao co) 36 (0, 0)) := by rw [hW3.out]; exact heap_alloc_new w2 _
  have hz3 : w2.heap.size < W3.heap.size := by rw [hW3.out]; simp
  have HT3x := Lib.hid (HT2.out.below hb3)
  have HB3 : Hid (Below w0.heap.size w0 W3) := HB2.out.trans (hb3.mono HB2.out.size)
  have hi3 := (HIO.out.below HB3.out).more HB3.out.size
  have HO3 : Hid (OpsAt W3 W3.heap.size (some ⟨w2.heap.size, 0, none⟩) [o]) := fun _ => by
   refine ⟨_, rfl, hz3, fun k o' hk => ?_⟩
   match k, hk with
   | 0, hk =>
    obtain rfl : o = o' := by simpa using hk
    refine ⟨Ao, co, hi3, HLO.out, ?_⟩
    unfold OpCells
    rw [Nat.zero_mul, add_zero_block]
    exact ⟨cell_row hx3 0 _ rfl, cell_row hx3 1 _ rfl, cell_row hx3 2 _ rfl, cell_row hx3 3 _ rfl, cell_row hx3 4 _ rfl, cell_row hx3 5 _ rfl, cell_row hx3 6 _ rfl⟩
   | k + 1, hk => simp at hk
  have HSS : Hid (SmallOps [o]) := ⟨by simp, fun o' ho' => by rw [List.mem_singleton.1 ho']; exact ⟨HSO.out, HBO.out⟩⟩
  clear hb3 hx3 hz3 hi3
  go_wp2_with fail
  rw [← hW3.out]
  clear d0 d1 d2 d3 d4 d5 d6
  cases hfo : fewL [o] with
  | false =>
   refine (few_any [o] (some ⟨w2.heap.size, 0, none⟩) 1 W3.heap.size W3 HO3.out (Nat.le_refl _) HSS.out false hfo).mono ?_
   rintro e w4 ⟨rfl, hb4⟩
   have HB4 : Hid (Below w0.heap.size w0 w4) := HB3.out.trans (hb4.mono HB3.out.size)
   clear hb4
   go_wp2_with fail
   refine (alive_any w4).mono ?_
   rintro e w5 ⟨rfl, hb5⟩
   have HB5 : Hid (Below w0.heap.size w0 w5) := HB4.out.trans (hb5.mono HB4.out.size)
   clear hb5
   go_wp2_with fail
   go_ret
   exact ⟨rfl, HB0.out.trans (HB5.out.mono HB0.out.size)⟩
  | true =>
   refine (few_any [o] (some ⟨w2.heap.size, 0, none⟩) 1 W3.heap.size W3 HO3.out (Nat.le_refl _) HSS.out true hfo).mono ?_
   rintro e w4 ⟨rfl, hb4⟩
   obtain ⟨wp, hwp⟩ : ∃ wp, w4 = wp := ⟨_, rfl⟩
   subst hwp
   have HBP : Hid (Below w0.heap.size w0 w4) := HB3.out.trans (hb4.mono HB3.out.size)
   have HTP : Hid (TreeM (fun b => b = w0.heap.size + 1 ∨ b = w0.heap.size) (w0.heap.size + 1) .nil 1 w4) := HT3x.out.below hb4
   clear hb4
   have HOF : Hid (o.l.length ≤ 2500) := by
    unfold fewL at hfo
    have := of_decide_eq_true ((Bool.and_eq_true _ _ ▸ hfo : _ ∧ _).2)
    have h2 := many_mem (show o ∈ [o] by simp)
    show _ ≤ _
    omega
   clear hfo
   go_wp2_with fail
   refine (RNew_any w4).mono ?_
   rintro e v3 ⟨heq, hbq⟩
   unfold treeV at heq
   subst heq
   have HBQ : Hid (Below w0.heap.size w0 v3) := HBP.out.trans (hbq.mono HBP.out.size)
   have HTQ := Lib.hid (HTP.out.below hbq)
   clear hbq
   go_wp2_with fail
   refine (plays_in l A c w0.heap.size (w0.heap.size + 1) .nil 1 none 0 _ (fun _ => True) v3 HTQ.out ⟨fun h => absurd h (by simp [Fo.flat]), by simp [Fo.flat, SliceOk, maxLen]⟩ (HI.out.below HBQ.out) (fun b hb => by rcases hb with rfl | rfl <;> omega) HBQ.out.size HS.out HFEW.out (fun _ _ => trivial) (fun _ _ => trivial)).mono ?_
   rintro e v4 ⟨M4, f4, next4, A4, c4, he4, ht4, hr4, hg4, hn4⟩
   unfold treeV at he4
   subst he4
   have HT4 := Lib.hid ht4
   have HN4 := Lib.hid hn4
   have HR4 := Lib.hid hr4
   have HLO4 : Hid (∀ b, M4 b → w0.heap.size ≤ b) := hg4.low (fun b hb => by rcases hb with rfl | rfl <;> omega) HBQ.out.size
   have HB4 : Hid (Below w0.heap.size w0 v4) := HBQ.out.trans (hg4.1.below (fun b hb => by rcases hb with rfl | rfl <;> omega) HBQ.out.size)
   clear ht4 hr4 hg4 hn4
   obtain ⟨W5, hW5⟩ : ∃ W5, Hid (W5 = v4.alloc (.cells #[.slice A4 (f4.flat 0).length c4, .int .i64 next4] 29)) := ⟨_, rfl⟩
   have hb5 : Below v4.heap.size v4 W5 := by rw [hW5.out]; exact (Below.refl _ v4).alloc (Nat.le_refl _) _
   have hx5 : W5.heap[v4.heap.size]? = some (.cells (treeV A4 (f4.flat 0).length c4 next4) 29 (0, 0)) := by rw [hW5.out]; exact heap_alloc_new v4 _
   have HZ5 : Hid (v4.heap.size < W5.heap.size) := by show _ < _; rw [hW5.out]; simp
   have HX5 := Lib.hid hx5
   have HT5 := Lib.hid (HT4.out.below hb5)
   have HR5 := Lib.hid (HR4.out.below hb5)
   have HB5 : Hid (Below w0.heap.size w0 W5) := HB4.out.trans (hb5.mono HB4.out.size)
   clear hb5 hx5
   have HS5 : Hid (St w0 (w0.heap.size + 1) v4.heap.size A4 c4 f4 next4 M4 f4 next4 W5) := ⟨HT5.out, HR5.out, HB5.out, HLO4.out, fun hm => by have := HT4.out.lt hm; omega, HX5.out⟩
   go_upto_region 5 with (fail)
   rw [← hW5.out]
   obtain ⟨d0, d1, d2, d3, d4, d5, d6⟩ := hOX.out W5 HB5.out
   obtain ⟨ans, hans⟩ : ∃ a, Hid (insertL (f4.flat 0) next4 o.id o.pl o.l = a) := ⟨_, rfl⟩
   go_wp2_with fail
   refine (Insert_in HT5.out HSO.out.1.2.1 o.pl o.l Ao co w0.heap.size (HIO.out.below HB5.out) HLO4.out HB5.out.size HSO.out.2.2.2).mono ?_
   have hno := insert_no (f4.flat 0) next4 o.id o.pl o.l
   rw [hans.out] at hno ⊢
   obtain ⟨L6, NX, ID, E⟩ := ans
   rintro e w6 ⟨rfl, M6, f6, hf6, ht6, hg6⟩
   obtain rfl : L6 = f6.flat 0 := hf6
   simp only at ht6 hno
   have HS6 := Lib.hid (HS5.out.grow hg6 ht6)
   have HNO := Lib.hid hno
   clear d0 d1 d2 d3 d4 d5 d6 ht6 hg6 hno
   by_cases hE : E = 0
   ·have e0 : (E == 0) = true := by simpa using hE
    subst hE
    obtain ⟨ei, m, F, q1, q2, q3, q4, q5, q6, q7, q8, q9⟩ := insert_fo HS5.out.1.inv hans.out
    have hf6 : f6 = f4.upd o.id (Fo.insAt m F) := Fo.flat_inj _ _ 0 q6
    subst f6
    have HEI := Lib.hid q1
    have HPLM := Lib.hid q2
    have HM := Lib.hid q3
    have HZR := Lib.hid q4
    have HFI := Lib.hid q5
    have HIDN : Hid (ID = next4) := q7
    have HNXE := Lib.hid q8
    have HNX9 := Lib.hid q9
    have hidp : o.id ∈ f4.ids := Fo.ent_mem f4 0 o.id ei q1
    have HIDP := Lib.hid hidp
    have HNF : Hid (∀ x ∈ F.ids, x ∉ f4.ids ∧ 1 ≤ x ∧ x ≤ 2147483647) := fun x hx => by
     rw [HFI.out, ids_mem] at hx
     have h1 := HS5.out.1.inv.nx
     refine ⟨fun h => ?_, by omega, by omega⟩
     have := HS5.out.1.inv.rng x h
     omega
    clear q1 q2 q3 q4 q5 q6 q7 q8 q9 hidp
    obtain ⟨d0, d1, d2, d3, d4, d5, d6⟩ := hOX.out w6 HS6.out.2.2.1
    go_wp2_with fail
    clear d0 d1 d2 d3 d4 d5 d6
    have hol2 : (o.l.length : Int) ≤ 2500 := by have := HOF.out; omega
    go_loopw [10, 64] (fun r i wr => ∃ j : Nat, i = .int .i64 (j : Int) ∧ j ≤ o.l.length ∧ r = .int .i64 (zeros (o.l.take j) : Int) ∧ Hid (Below w6.heap.size w6 wr)) (fun _ i _ => o.l.length - (intOf i).toNat)
    case atStart => exact ⟨0, rfl, Nat.zero_le _, rfl, Below.refl _ _⟩
    case round =>
     obtain ⟨j, rfl, hj, rfl, hbj⟩ := hrel
     have hzl : zeros (o.l.take j) ≤ j := by
      unfold zeros
      have h1 := List.length_filter_le (fun x : ItemD => decide (x.level = 0)) (o.l.take j)
      rw [List.length_take] at h1
      omega
     have j0 : (0 : Int) ≤ (j : Int) := by omega
     have hz0 : (0 : Int) ≤ (zeros (o.l.take j) : Int) := by omega
     have hz1 : (zeros (o.l.take j) : Int) ≤ 2500 := by omega
     by_cases hjm : j < o.l.length
     ·have j1 : (j : Int) < (o.l.length : Int) := by omega
      obtain ⟨x, hx⟩ : ∃ x, Hid (o.l[j]? = some x) := ⟨o.l[j], List.getElem?_eq_getElem _⟩
      have hIr : ItemsAt wr w0.heap.size Ao o.l := HIO.out.below (HS6.out.2.2.1.trans (hbj.out.mono HS6.out.2.2.1.size))
      obtain ⟨ad, hAd, _⟩ := hIr (by omega)
      subst hAd
      obtain ⟨_, A', c', _, _, h0, h1, h2, h3, h4⟩ := hIr.item hx.out
      unfold strV at h2 h3
      have hsn := zeros_snoc hx.out
      obtain ⟨W1, hW1⟩ : ∃ W1, Hid (W1 = wr.alloc (.cells #[.int .i64 x.level, .int .i64 x.kind, .string ⟨x.name.toArray⟩, .string ⟨x.text.toArray⟩, .slice A' x.attrs.length c'] 62)) := ⟨_, rfl⟩
      have hbw : Below wr.heap.size wr W1 := by rw [hW1.out]; exact (Below.refl _ wr).alloc (Nat.le_refl _) _
      have hXW : W1.heap[wr.heap.size]? = some (.cells #[.int .i64 x.level, .int .i64 x.kind, .string ⟨x.name.toArray⟩, .string ⟨x.text.toArray⟩, .slice A' x.attrs.length c'] 62 (0, 0)) := by rw [hW1.out]; exact heap_alloc_new wr _
      have HBW : Hid (Below w6.heap.size w6 W1) := hbj.out.trans (hbw.mono hbj.out.size)
      have HSN := Lib.hid hsn
      clear hbw hIr hsn
      go_upto_region 13 with (fail)
      rw [← hW1.out]
      clear h0 h1 h2 h3 h4
      have y0 : W1.cell? ⟨wr.heap.size, 0, none⟩ = some (.int .i64 x.level) := cell_row hXW 0 _ rfl
      clear hXW
      by_cases hlv : x.level = 0
      ·have t0 : (x.level == 0) = true := by simpa using hlv
       have HSN2 : Hid (zeros (o.l.take (j + 1)) = zeros (o.l.take j) + 1) := by
        have := HSN.out
        rw [if_pos hlv] at this
        exact this
       clear hlv
       go_wp2_with fail
       go_roundw
       case rel => exact ⟨j + 1, by go_num, by omega, by rw [HSN2.out]; go_num, HBW.out⟩
       case measure => simp [intOf]; omega
      ·have t0 : (x.level == 0) = false := by simpa using hlv
       have HSN2 : Hid (zeros (o.l.take (j + 1)) = zeros (o.l.take j)) := by
        have := HSN.out
        rw [if_neg hlv] at this
        exact this
       clear hlv
       go_wp2_with fail
       go_roundw
       case rel => exact ⟨j + 1, by go_num, by omega, by rw [HSN2.out], HBW.out⟩
       case measure => simp [intOf]; omega
     ·have j1 : ¬ (j : Int) < (o.l.length : Int) := by omega
      have hzz : zeros (o.l.take j) = F.roots.length := by rw [HZR.out, List.take_of_length_le (by omega)]
      rw [hzz] at hz0 hz1 ⊢
      clear hzz hzl
      go_wp2_with fail
      obtain ⟨wv, hwv⟩ : ∃ wv : World, Hid (wv = wr) := ⟨_, rfl⟩
      have hbv : Below w6.heap.size w6 wv := by rw [hwv.out]; exact hbj.out
      have HSV := Lib.hid (HS6.out.below hbv)
      rw [← hwv.out]
      clear hbv
      go_loopw [75] (fun i wr => ∃ (j : Nat) (R : Fo) (Mr : Nat → Prop), i = .int .i64 (j : Int) ∧ j + R.roots.length = F.roots.length ∧ Hid (∀ x ∈ R.ids, x ∈ F.ids) ∧ Hid (St w0 (w0.heap.size + 1) v4.heap.size A4 c4 f4 next4 Mr (f4.upd o.id (Fo.insAt m R)) NX wr)) (fun i _ => F.roots.length - (intOf i).toNat)
      case atStart => exact ⟨0, F, M6, rfl, by omega, fun x hx => hx, HSV.out⟩
      case round =>
       obtain ⟨j, R, Mr, rfl, hjr, hsub, hst⟩ := hrel
       have j0 : (0 : Int) ≤ (j : Int) := by omega
       cases R with
       | cons q dq kq R' =>
        have hjl : j < F.roots.length := by simp [Fo.roots] at hjr; omega
        have j1 : (j : Int) < (F.roots.length : Int) := by omega
        have hqF := hsub.out q (by simp [Fo.ids])
        obtain ⟨hqn, hq1, hq2⟩ := HNF.out q hqF
        have hwq : wfI q := ⟨by omega, by omega⟩
        have hnew : ∀ x ∈ (Fo.cons q dq kq R').ids, x ∉ f4.ids := fun x hx => (HNF.out x (hsub.out x hx)).1
        have hent : (f4.upd o.id (Fo.insAt m (.cons q dq kq R'))).ent 0 o.id = some { ei with kids := ei.kids.take m ++ (Fo.cons q dq kq R').roots ++ ei.kids.drop m } := by
         rw [Fo.ent_upd_ins f4 o.id 0 m _ HS5.out.1.inv.nd hnew HIDP.out]
         unfold addG
         rw [Fo.ent_not _ o.id o.id (fun h => hnew o.id h HIDP.out)]
         simp only [if_true, HEI.out, Option.map_some]
        have hkm : (ei.kids.take m ++ (Fo.cons q dq kq R').roots ++ ei.kids.drop m)[m]? = some q := by
         rw [List.append_assoc, List.getElem?_append_right (by rw [List.length_take]; omega), List.length_take, Nat.min_eq_left HM.out, Nat.sub_self]
         rfl
        have hdel := delete_fo (dq := dq) (kq := kq) (R := R') HIDP.out hqn HS5.out.1.inv.nd hst.out.1.inv
        have HENT := Lib.hid hent
        have HKM := Lib.hid hkm
        have HDEL := Lib.hid hdel
        have HWQ := Lib.hid hwq
        obtain ⟨d0, d1, d2, d3, d4, d5, d6⟩ := hOX.out wr hst.out.2.2.1
        rw [HPLM.out] at d3
        clear hent hkm hdel hnew hqF hqn hwq
        go_wp2_with fail
        refine (Kid_in hst.out.1 HENT.out m q HKM.out).mono ?_
        rintro e w7 ⟨rfl, rfl⟩
        go_wp2_with fail
        refine (Delete_in hst.out.1 HWQ.out).mono ?_
        rw [HDEL.out]
        rintro e w8 ⟨rfl, M8, f8, hf8, ht8, hg8⟩
        have hf8' : f8 = f4.upd o.id (Fo.insAt m R') := (Fo.flat_inj _ _ 0 hf8).symm
        subst f8
        simp only at ht8
        have HS8 := Lib.hid (hst.out.grow hg8 ht8)
        have hsub' : Hid (∀ x ∈ R'.ids, x ∈ F.ids) := fun x hx => hsub.out x (by simp only [Fo.ids, List.mem_cons, List.mem_append]; exact .inr (.inr hx))
        clear d0 d1 d2 d3 d4 d5 d6 ht8 hg8 hf8
        go_wp2_with fail
        go_roundw
        case rel => exact ⟨j + 1, R', M8, by go_num, by simp [Fo.roots] at hjr; omega, hsub'.out, HS8.out⟩
        case measure => simp [intOf]; omega
       | nil =>
        have hjl : j = F.roots.length := by simp [Fo.roots] at hjr; omega
        have j1 : ¬ (j : Int) < (F.roots.length : Int) := by omega
        have hst' := hst.out
        rw [Fo.upd_ins_nil] at hst'
        have HSR := Lib.hid hst'
        have hid0 : (ID == 0) = false := by
         have := HS5.out.1.inv.nx
         have := HIDN.out
         simp; omega
        have x0 : wr.cell? ⟨v4.heap.size, 0, none⟩ = some (.slice A4 (f4.flat 0).length c4) := cell_row HSR.out.2.2.2.2.2 0 _ rfl
        have x1 : wr.cell? ⟨v4.heap.size, 1, none⟩ = some (.int .i64 next4) := cell_row HSR.out.2.2.2.2.2 1 _ rfl
        clear hst' hjl
        go_wp2_with fail
        refine (stands_in A4 c4 next4 HSR.out.1 HSR.out.2.1).mono ?_
        rintro e w7 ⟨rfl, hb7⟩
        have HS7 := Lib.hid (HSR.out.below hb7)
        obtain ⟨nx7, hnx7⟩ : ∃ nx7, NX = nx7 := ⟨_, rfl⟩
        rw [hnx7] at HS7
        clear hb7 x0 x1 hid0
        go_upto_region 24 with (fail)
        -- from Get on: world w7, state HS7 (its tree is f4, its next id nx7)
        obtain ⟨ni, np0, nk, nn, nm, tx, al, bb, ak, hal, hka, hg1, _, _⟩ := asks2 (t := w0.heap.size + 1) HS7.out.1.inv HSO.out.1.2.1
        obtain ⟨par, hpar⟩ : ∃ par, np0 = par := ⟨_, rfl⟩
        rw [hpar] at hka hg1
        have HPAR : Hid (∀ e', f4.ent 0 o.id = some e' → par = e'.par) := fun e' he' => hka.1 e' he'
        have HWP : Hid (wfI par) := hka.2
        have HG1 := Lib.hid hg1
        obtain ⟨d0, d1, d2, d3, d4, d5, d6⟩ := hOX.out w7 HS7.out.2.2.1
        clear hal hka hg1 hpar
        go_wp2_with fail
        refine (HG1.out _ w7 HS7.out.1).mono ?_
        rintro e w8 ⟨An, cn, he8, ha8, hb8⟩
        unfold nodeV strV at he8
        subst he8
        clear d0 d1 d2 d3 d4 d5 d6
        obtain ⟨v8, hv8⟩ : ∃ v8, Hid (v8 = w8.alloc (.cells #[.int .i64 ni, .int .i64 par, .int .i64 nk, .int .i64 nn, .string ⟨nm.toArray⟩, .string ⟨tx.toArray⟩, .slice An al.length cn] 50)) := ⟨_, rfl⟩
        obtain ⟨nb, hnb⟩ : ∃ nb, Hid (w8.heap.size = nb) := ⟨_, rfl⟩
        have hbv : Below w8.heap.size w8 v8 := by rw [hv8.out]; exact (Below.refl _ w8).alloc (Nat.le_refl _) _
        have hxn : v8.heap[nb]? = some (.cells #[.int .i64 ni, .int .i64 par, .int .i64 nk, .int .i64 nn, .string ⟨nm.toArray⟩, .string ⟨tx.toArray⟩, .slice An al.length cn] 50 (0, 0)) := by rw [hv8.out, ← hnb.out]; exact heap_alloc_new w8 _
        have HNZ : Hid (nb < v8.heap.size) := by show _ < _; rw [hv8.out, ← hnb.out]; simp
        have hSt8 := HS7.out.below hb8
        have HNM : Hid (¬ Mr nb) := fun hm => by
         have := HS7.out.1.lt hm
         have := hb8.size
         have := hnb.out
         omega
        have HS8 := Lib.hid (hSt8.below hbv)
        have HXN := Lib.hid hxn
        clear ha8 hb8 hbv hxn hSt8
        go_upto_region 25 with (fail)
        rw [← hv8.out, hnb.out]
        go_wp2_with fail
        go_loopw [17] (fun i wr => ∃ j : Nat, i = .int .i64 (j : Int) ∧ j ≤ 1000 ∧ wr = v8 ∧ Hid (∀ j' : Nat, j' < j → (kidA (f4.flat 0) par (j' : Int)).1 ≠ o.id)) (fun i _ => 1000 - (intOf i).toNat)
        case atStart => exact ⟨0, rfl, by omega, rfl, fun j' h => by omega⟩
        case round =>
         obtain ⟨jn, rfl, hj, rfl, hnot⟩ := hrel
         have j0 : (0 : Int) ≤ (jn : Int) := by omega
         by_cases hjm : jn < 1000
         ·have j1 : (jn : Int) < 1000 := by omega
          obtain ⟨kv, hkv⟩ : ∃ kv, Hid (kidA (f4.flat 0) par (jn : Int) = kv) := ⟨_, rfl⟩
          have HKV := hkv
          have hk1 := kids_any HS8.out.1 HWP.out (jn : Int)
          rw [hkv.out] at hk1
          have HK1 := Lib.hid hk1
          have n1 := cell_row HXN.out 1 _ rfl
          clear hk1 hkv
          go_wp2_with fail
          refine HK1.out.mono ?_
          rintro e w9 ⟨rfl, rfl⟩
          obtain ⟨d0, d1, d2, d3, d4, d5, d6⟩ := hOX.out wr HS8.out.2.2.1
          clear n1
          by_cases hkid : kv.1 = o.id
          ·have hk' : (kv.1 == o.id) = true := by simpa using hkid
           have HPL : Hid (∀ e' pe, f4.ent 0 o.id = some e' → f4.ent 0 e'.par = some pe → o.id ∈ pe.kids → pe.kids.length ≤ 1000 → pe.kids[jn]? = some o.id) := fun e' pe h1 h2 h3 h4 => by
            have h5 := HPAR.out e' h1
            rw [← h5] at h2
            obtain ⟨lq, kq, A9, B9, hsq, hkq, _, _, _, _, _⟩ := HS8.out.1.inv.stand h2
            have h6 := HKV.out
            rw [kid_stand hsq] at h6
            unfold kidE at h6
            rw [if_neg (by omega), show ((jn : Int)).toNat = jn by omega] at h6
            rw [hkq]
            cases hx : kq.roots[jn]? with
            | none =>
             rw [hx] at h6
             simp only at h6
             rw [← h6] at hkid
             exact absurd hkid.symm (HS8.out.1.inv.n0 o.id (Fo.ent_mem f4 0 o.id e' h1))
            | some x =>
             rw [hx] at h6
             simp only at h6
             rw [← h6] at hkid
             rw [← hkid]
           clear hkid
           go_upto_region 30 with (fail)
           clear d0 d1 d2 d3 d4 d5 d6
           -- from the first Move on: world wr, place jn
           obtain ⟨d0, d1, d2, d3, d4, d5, d6⟩ := hOX.out wr HS8.out.2.2.1
           obtain ⟨an2, han2⟩ : ∃ a, Hid (moveL (f4.flat 0) nx7 o.id o.to o.pl = a) := ⟨_, rfl⟩
           go_wp2_with fail
           refine (Move_in HS8.out.1 HSO.out.1.2.1 HSO.out.1.2.2.1 o.pl).mono ?_
           have hno2 := move_no (f4.flat 0) nx7 o.id o.to o.pl
           rw [han2.out] at hno2 ⊢
           obtain ⟨L9, NX9, ID9, E9⟩ := an2
           rintro e w9 ⟨rfl, M9, f9, hf9, ht9, hg9⟩
           obtain rfl : L9 = f9.flat 0 := hf9
           simp only at ht9 hno2
           have HS9 := Lib.hid (HS8.out.grow hg9 ht9)
           have hxn9 : w9.heap[nb]? = some (.cells #[.int .i64 ni, .int .i64 par, .int .i64 nk, .int .i64 nn, .string ⟨nm.toArray⟩, .string ⟨tx.toArray⟩, .slice An al.length cn] 50 (0, 0)) := (hg9.1.block nb HNZ.out HNM.out).trans HXN.out
           have HXN9 := Lib.hid hxn9
           have HNO2 := Lib.hid hno2
           clear d0 d1 d2 d3 d4 d5 d6 ht9 hg9 hxn9 hno2
           by_cases hE9 : E9 = 0
           ·have e9 : (E9 == 0) = true := by simpa using hE9
            subst hE9
            obtain ⟨f2, e', pe, q1, q2, q3, q4, q5, q6⟩ := move_fo HS8.out.1.inv han2.out
            have hf92 : f9 = f2 := Fo.flat_inj _ _ 0 q1
            subst f2
            have hnx9 : NX9 = nx7 := by
             have := (move_form (f4.flat 0) nx7 o.id o.to o.pl).1
             rw [han2.out] at this
             exact this
            have HS9' := HS9
            rw [hnx9] at HS9'
            have hpar : par = e'.par := HPAR.out e' q2
            have hback := q6 HS9'.out.1.inv jn (HPL.out e' pe q2 q3 q4 q5)
            rw [← hpar] at hback
            have hwp := HS9'.out.1.inv.wf
            have hwpar : wfI par := by rw [hpar]; exact HS8.out.1.inv.wf _ _ q3
            obtain ⟨d0, d1, d2, d3, d4, d5, d6⟩ := hOX.out w9 HS9.out.2.2.1
            have n1 := cell_row HXN9.out 1 _ rfl
            have HBACK := Lib.hid hback
            clear q1 q2 q3 q4 q5 q6 hpar hback hwp
            go_wp2_with fail
            refine (Move_in HS9'.out.1 HSO.out.1.2.1 hwpar (jn : Int)).mono ?_
            rw [HBACK.out]
            rintro e w10 ⟨rfl, M10, f10, hf10, ht10, hg10⟩
            have hf4 : f10 = f4 := (Fo.flat_inj _ _ 0 hf10).symm
            subst f10
            simp only at ht10
            have HS10 := Lib.hid (HS9'.out.grow hg10 ht10)
            clear d0 d1 d2 d3 d4 d5 d6 n1 hf10 ht10 hg10
            go_wp2_with fail
            refine (alive_any w10).mono ?_
            rintro e w11 ⟨rfl, hb11⟩
            have HS11 := Lib.hid (HS10.out.below hb11)
            have x0 : w11.cell? ⟨v4.heap.size, 0, none⟩ = some (.slice A4 (f4.flat 0).length c4) := cell_row HS11.out.2.2.2.2.2 0 _ rfl
            have x1 : w11.cell? ⟨v4.heap.size, 1, none⟩ = some (.int .i64 next4) := cell_row HS11.out.2.2.2.2.2 1 _ rfl
            clear hb11
            go_wp2_with fail
            refine (stands_in A4 c4 next4 HS11.out.1 HS11.out.2.1).mono ?_
            rintro e w12 ⟨rfl, hb12⟩
            have HB12 : Hid (Below w0.heap.size w0 w12) := HS11.out.2.2.1.trans (hb12.mono HS11.out.2.2.1.size)
            clear hb12 x0 x1
            go_wp2_with fail
            go_ret
            exact ⟨rfl, HB0.out.trans (HB12.out.mono HB0.out.size)⟩
           ·have e9 : (E9 == 0) = false := by simpa using hE9
            obtain ⟨h1, h2⟩ := HNO2.out hE9
            have hf94 : f9 = f4 := Fo.flat_inj _ _ 0 h1
            subst f9
            obtain ⟨d0, d1, d2, d3, d4, d5, d6⟩ := hOX.out w9 HS9.out.2.2.1
            clear h1
            go_wp2_with fail
            clear d0 d1 d2 d3 d4 d5 d6
            refine (alive_any w9).mono ?_
            rintro e w11 ⟨rfl, hb11⟩
            have HS11 := Lib.hid (HS9.out.below hb11)
            have x0 : w11.cell? ⟨v4.heap.size, 0, none⟩ = some (.slice A4 (f4.flat 0).length c4) := cell_row HS11.out.2.2.2.2.2 0 _ rfl
            have x1 : w11.cell? ⟨v4.heap.size, 1, none⟩ = some (.int .i64 next4) := cell_row HS11.out.2.2.2.2.2 1 _ rfl
            clear hb11
            go_wp2_with fail
            refine (stands_in A4 c4 next4 HS11.out.1 HS11.out.2.1).mono ?_
            rintro e w12 ⟨rfl, hb12⟩
            have HB12 : Hid (Below w0.heap.size w0 w12) := HS11.out.2.2.1.trans (hb12.mono HS11.out.2.2.1.size)
            clear hb12 x0 x1
            go_wp2_with fail
            go_ret
            exact ⟨rfl, HB0.out.trans (HB12.out.mono HB0.out.size)⟩
          ·have hk' : (kv.1 == o.id) = false := by simpa using hkid
           have hnot' : Hid (∀ j' : Nat, j' < jn + 1 → (kidA (f4.flat 0) par (j' : Int)).1 ≠ o.id) := fun j' hj' => by
            by_cases e' : j' = jn
            ·subst e'; rw [HKV.out]; exact hkid
            ·exact hnot.out j' (by omega)
           clear hkid
           go_wp2_with fail
           go_roundw
           case rel => exact ⟨jn + 1, by go_num, by omega, by first | rfl | trivial, hnot'.out⟩
           case measure => simp [intOf]; omega
         ·have j1 : ¬ (jn : Int) < 1000 := by omega
          have HPL : Hid (∀ e' pe, f4.ent 0 o.id = some e' → f4.ent 0 e'.par = some pe → o.id ∈ pe.kids → pe.kids.length ≤ 1000 → pe.kids[jn]? = some o.id) := fun e' pe h1 h2 h3 h4 => by
           have h5 := HPAR.out e' h1
           rw [← h5] at h2
           obtain ⟨lq, kq, A9, B9, hsq, hkq, _, _, _, _, _⟩ := HS8.out.1.inv.stand h2
           obtain ⟨k, hk⟩ := List.mem_iff_getElem?.1 h3
           have hkl := (List.getElem?_eq_some_iff.1 hk).1
           have h6 := hnot.out k (by omega)
           rw [kid_stand hsq, ← hkq] at h6
           unfold kidE at h6
           rw [if_neg (by omega), show ((k : Int)).toNat = k by omega, hk] at h6
           exact absurd rfl h6
          go_upto_region 30 with (fail)
          -- from the first Move on: world wr, place jn
          obtain ⟨d0, d1, d2, d3, d4, d5, d6⟩ := hOX.out wr HS8.out.2.2.1
          obtain ⟨an2, han2⟩ : ∃ a, Hid (moveL (f4.flat 0) nx7 o.id o.to o.pl = a) := ⟨_, rfl⟩
          go_wp2_with fail
          refine (Move_in HS8.out.1 HSO.out.1.2.1 HSO.out.1.2.2.1 o.pl).mono ?_
          have hno2 := move_no (f4.flat 0) nx7 o.id o.to o.pl
          rw [han2.out] at hno2 ⊢
          obtain ⟨L9, NX9, ID9, E9⟩ := an2
          rintro e w9 ⟨rfl, M9, f9, hf9, ht9, hg9⟩
          obtain rfl : L9 = f9.flat 0 := hf9
          simp only at ht9 hno2
          have HS9 := Lib.hid (HS8.out.grow hg9 ht9)
          have hxn9 : w9.heap[nb]? = some (.cells #[.int .i64 ni, .int .i64 par, .int .i64 nk, .int .i64 nn, .string ⟨nm.toArray⟩, .string ⟨tx.toArray⟩, .slice An al.length cn] 50 (0, 0)) := (hg9.1.block nb HNZ.out HNM.out).trans HXN.out
          have HXN9 := Lib.hid hxn9
          have HNO2 := Lib.hid hno2
          clear d0 d1 d2 d3 d4 d5 d6 ht9 hg9 hxn9 hno2
          by_cases hE9 : E9 = 0
          ·have e9 : (E9 == 0) = true := by simpa using hE9
           subst hE9
           obtain ⟨f2, e', pe, q1, q2, q3, q4, q5, q6⟩ := move_fo HS8.out.1.inv han2.out
           have hf92 : f9 = f2 := Fo.flat_inj _ _ 0 q1
           subst f2
           have hnx9 : NX9 = nx7 := by
            have := (move_form (f4.flat 0) nx7 o.id o.to o.pl).1
            rw [han2.out] at this
            exact this
           have HS9' := HS9
           rw [hnx9] at HS9'
           have hpar : par = e'.par := HPAR.out e' q2
           have hback := q6 HS9'.out.1.inv jn (HPL.out e' pe q2 q3 q4 q5)
           rw [← hpar] at hback
           have hwp := HS9'.out.1.inv.wf
           have hwpar : wfI par := by rw [hpar]; exact HS8.out.1.inv.wf _ _ q3
           obtain ⟨d0, d1, d2, d3, d4, d5, d6⟩ := hOX.out w9 HS9.out.2.2.1
           have n1 := cell_row HXN9.out 1 _ rfl
           have HBACK := Lib.hid hback
           clear q1 q2 q3 q4 q5 q6 hpar hback hwp
           go_wp2_with fail
           refine (Move_in HS9'.out.1 HSO.out.1.2.1 hwpar (jn : Int)).mono ?_
           rw [HBACK.out]
           rintro e w10 ⟨rfl, M10, f10, hf10, ht10, hg10⟩
           have hf4 : f10 = f4 := (Fo.flat_inj _ _ 0 hf10).symm
           subst f10
           simp only at ht10
           have HS10 := Lib.hid (HS9'.out.grow hg10 ht10)
           clear d0 d1 d2 d3 d4 d5 d6 n1 hf10 ht10 hg10
           go_wp2_with fail
           refine (alive_any w10).mono ?_
           rintro e w11 ⟨rfl, hb11⟩
           have HS11 := Lib.hid (HS10.out.below hb11)
           have x0 : w11.cell? ⟨v4.heap.size, 0, none⟩ = some (.slice A4 (f4.flat 0).length c4) := cell_row HS11.out.2.2.2.2.2 0 _ rfl
           have x1 : w11.cell? ⟨v4.heap.size, 1, none⟩ = some (.int .i64 next4) := cell_row HS11.out.2.2.2.2.2 1 _ rfl
           clear hb11
           go_wp2_with fail
           refine (stands_in A4 c4 next4 HS11.out.1 HS11.out.2.1).mono ?_
           rintro e w12 ⟨rfl, hb12⟩
           have HB12 : Hid (Below w0.heap.size w0 w12) := HS11.out.2.2.1.trans (hb12.mono HS11.out.2.2.1.size)
           clear hb12 x0 x1
           go_wp2_with fail
           go_ret
           exact ⟨rfl, HB0.out.trans (HB12.out.mono HB0.out.size)⟩
          ·have e9 : (E9 == 0) = false := by simpa using hE9
           obtain ⟨h1, h2⟩ := HNO2.out hE9
           have hf94 : f9 = f4 := Fo.flat_inj _ _ 0 h1
           subst f9
           obtain ⟨d0, d1, d2, d3, d4, d5, d6⟩ := hOX.out w9 HS9.out.2.2.1
           clear h1
           go_wp2_with fail
           clear d0 d1 d2 d3 d4 d5 d6
           refine (alive_any w9).mono ?_
           rintro e w11 ⟨rfl, hb11⟩
           have HS11 := Lib.hid (HS9.out.below hb11)
           have x0 : w11.cell? ⟨v4.heap.size, 0, none⟩ = some (.slice A4 (f4.flat 0).length c4) := cell_row HS11.out.2.2.2.2.2 0 _ rfl
           have x1 : w11.cell? ⟨v4.heap.size, 1, none⟩ = some (.int .i64 next4) := cell_row HS11.out.2.2.2.2.2 1 _ rfl
           clear hb11
           go_wp2_with fail
           refine (stands_in A4 c4 next4 HS11.out.1 HS11.out.2.1).mono ?_
           rintro e w12 ⟨rfl, hb12⟩
           have HB12 : Hid (Below w0.heap.size w0 w12) := HS11.out.2.2.1.trans (hb12.mono HS11.out.2.2.1.size)
           clear hb12 x0 x1
           go_wp2_with fail
           go_ret
           exact ⟨rfl, HB0.out.trans (HB12.out.mono HB0.out.size)⟩
   ·have e0 : (E == 0) = false := by simpa using hE
    obtain ⟨h1, h2⟩ := HNO.out hE
    have hf64 : f6 = f4 := Fo.flat_inj _ _ 0 h1
    subst f6
    obtain ⟨nx7, hnx7⟩ : ∃ nx7, NX = nx7 := ⟨_, rfl⟩
    rw [hnx7] at HS6
    clear hE h1 h2
    go_upto_region 24 with (fail)
    -- from Get on: world w6, state HS6 (its tree is f4, its next id nx7)
    obtain ⟨ni, np0, nk, nn, nm, tx, al, bb, ak, hal, hka, hg1, _, _⟩ := asks2 (t := w0.heap.size + 1) HS6.out.1.inv HSO.out.1.2.1
    obtain ⟨par, hpar⟩ : ∃ par, np0 = par := ⟨_, rfl⟩
    rw [hpar] at hka hg1
    have HPAR : Hid (∀ e', f4.ent 0 o.id = some e' → par = e'.par) := fun e' he' => hka.1 e' he'
    have HWP : Hid (wfI par) := hka.2
    have HG1 := Lib.hid hg1
    obtain ⟨d0, d1, d2, d3, d4, d5, d6⟩ := hOX.out w6 HS6.out.2.2.1
    clear hal hka hg1 hpar
    go_wp2_with fail
    refine (HG1.out _ w6 HS6.out.1).mono ?_
    rintro e w8 ⟨An, cn, he8, ha8, hb8⟩
    unfold nodeV strV at he8
    subst he8
    clear d0 d1 d2 d3 d4 d5 d6
    obtain ⟨v8, hv8⟩ : ∃ v8, Hid (v8 = w8.alloc (.cells #[.int .i64 ni, .int .i64 par, .int .i64 nk, .int .i64 nn, .string ⟨nm.toArray⟩, .string ⟨tx.toArray⟩, .slice An al.length cn] 50)) := ⟨_, rfl⟩
    obtain ⟨nb, hnb⟩ : ∃ nb, Hid (w8.heap.size = nb) := ⟨_, rfl⟩
    have hbv : Below w8.heap.size w8 v8 := by rw [hv8.out]; exact (Below.refl _ w8).alloc (Nat.le_refl _) _
    have hxn : v8.heap[nb]? = some (.cells #[.int .i64 ni, .int .i64 par, .int .i64 nk, .int .i64 nn, .string ⟨nm.toArray⟩, .string ⟨tx.toArray⟩, .slice An al.length cn] 50 (0, 0)) := by rw [hv8.out, ← hnb.out]; exact heap_alloc_new w8 _
    have HNZ : Hid (nb < v8.heap.size) := by show _ < _; rw [hv8.out, ← hnb.out]; simp
    have hSt8 := HS6.out.below hb8
    have HNM : Hid (¬ M6 nb) := fun hm => by
     have := HS6.out.1.lt hm
     have := hb8.size
     have := hnb.out
     omega
    have HS8 := Lib.hid (hSt8.below hbv)
    have HXN := Lib.hid hxn
    clear ha8 hb8 hbv hxn hSt8
    go_upto_region 25 with (fail)
    rw [← hv8.out, hnb.out]
    go_wp2_with fail
    go_loopw [17] (fun i wr => ∃ j : Nat, i = .int .i64 (j : Int) ∧ j ≤ 1000 ∧ wr = v8 ∧ Hid (∀ j' : Nat, j' < j → (kidA (f4.flat 0) par (j' : Int)).1 ≠ o.id)) (fun i _ => 1000 - (intOf i).toNat)
    case atStart => exact ⟨0, rfl, by omega, rfl, fun j' h => by omega⟩
    case round =>
     obtain ⟨jn, rfl, hj, rfl, hnot⟩ := hrel
     have j0 : (0 : Int) ≤ (jn : Int) := by omega
     by_cases hjm : jn < 1000
     ·have j1 : (jn : Int) < 1000 := by omega
      obtain ⟨kv, hkv⟩ : ∃ kv, Hid (kidA (f4.flat 0) par (jn : Int) = kv) := ⟨_, rfl⟩
      have HKV := hkv
      have hk1 := kids_any HS8.out.1 HWP.out (jn : Int)
      rw [hkv.out] at hk1
      have HK1 := Lib.hid hk1
      have n1 := cell_row HXN.out 1 _ rfl
      clear hk1 hkv
      go_wp2_with fail
      refine HK1.out.mono ?_
      rintro e w9 ⟨rfl, rfl⟩
      obtain ⟨d0, d1, d2, d3, d4, d5, d6⟩ := hOX.out wr HS8.out.2.2.1
      clear n1
      by_cases hkid : kv.1 = o.id
      ·have hk' : (kv.1 == o.id) = true := by simpa using hkid
       have HPL : Hid (∀ e' pe, f4.ent 0 o.id = some e' → f4.ent 0 e'.par = some pe → o.id ∈ pe.kids → pe.kids.length ≤ 1000 → pe.kids[jn]? = some o.id) := fun e' pe h1 h2 h3 h4 => by
        have h5 := HPAR.out e' h1
        rw [← h5] at h2
        obtain ⟨lq, kq, A9, B9, hsq, hkq, _, _, _, _, _⟩ := HS8.out.1.inv.stand h2
        have h6 := HKV.out
        rw [kid_stand hsq] at h6
        unfold kidE at h6
        rw [if_neg (by omega), show ((jn : Int)).toNat = jn by omega] at h6
        rw [hkq]
        cases hx : kq.roots[jn]? with
        | none =>
         rw [hx] at h6
         simp only at h6
         rw [← h6] at hkid
         exact absurd hkid.symm (HS8.out.1.inv.n0 o.id (Fo.ent_mem f4 0 o.id e' h1))
        | some x =>
         rw [hx] at h6
         simp only at h6
         rw [← h6] at hkid
         rw [← hkid]
       clear hkid
       go_upto_region 30 with (fail)
       clear d0 d1 d2 d3 d4 d5 d6
       -- from the first Move on: world wr, place jn
       obtain ⟨d0, d1, d2, d3, d4, d5, d6⟩ := hOX.out wr HS8.out.2.2.1
       obtain ⟨an2, han2⟩ : ∃ a, Hid (moveL (f4.flat 0) nx7 o.id o.to o.pl = a) := ⟨_, rfl⟩
       go_wp2_with fail
       refine (Move_in HS8.out.1 HSO.out.1.2.1 HSO.out.1.2.2.1 o.pl).mono ?_
       have hno2 := move_no (f4.flat 0) nx7 o.id o.to o.pl
       rw [han2.out] at hno2 ⊢
       obtain ⟨L9, NX9, ID9, E9⟩ := an2
       rintro e w9 ⟨rfl, M9, f9, hf9, ht9, hg9⟩
       obtain rfl : L9 = f9.flat 0 := hf9
       simp only at ht9 hno2
       have HS9 := Lib.hid (HS8.out.grow hg9 ht9)
       have hxn9 : w9.heap[nb]? = some (.cells #[.int .i64 ni, .int .i64 par, .int .i64 nk, .int .i64 nn, .string ⟨nm.toArray⟩, .string ⟨tx.toArray⟩, .slice An al.length cn] 50 (0, 0)) := (hg9.1.block nb HNZ.out HNM.out).trans HXN.out
       have HXN9 := Lib.hid hxn9
       have HNO2 := Lib.hid hno2
       clear d0 d1 d2 d3 d4 d5 d6 ht9 hg9 hxn9 hno2
       by_cases hE9 : E9 = 0
       ·have e9 : (E9 == 0) = true := by simpa using hE9
        subst hE9
        obtain ⟨f2, e', pe, q1, q2, q3, q4, q5, q6⟩ := move_fo HS8.out.1.inv han2.out
        have hf92 : f9 = f2 := Fo.flat_inj _ _ 0 q1
        subst f2
        have hnx9 : NX9 = nx7 := by
         have := (move_form (f4.flat 0) nx7 o.id o.to o.pl).1
         rw [han2.out] at this
         exact this
        have HS9' := HS9
        rw [hnx9] at HS9'
        have hpar : par = e'.par := HPAR.out e' q2
        have hback := q6 HS9'.out.1.inv jn (HPL.out e' pe q2 q3 q4 q5)
        rw [← hpar] at hback
        have hwp := HS9'.out.1.inv.wf
        have hwpar : wfI par := by rw [hpar]; exact HS8.out.1.inv.wf _ _ q3
        obtain ⟨d0, d1, d2, d3, d4, d5, d6⟩ := hOX.out w9 HS9.out.2.2.1
        have n1 := cell_row HXN9.out 1 _ rfl
        have HBACK := Lib.hid hback
        clear q1 q2 q3 q4 q5 q6 hpar hback hwp
        go_wp2_with fail
        refine (Move_in HS9'.out.1 HSO.out.1.2.1 hwpar (jn : Int)).mono ?_
        rw [HBACK.out]
        rintro e w10 ⟨rfl, M10, f10, hf10, ht10, hg10⟩
        have hf4 : f10 = f4 := (Fo.flat_inj _ _ 0 hf10).symm
        subst f10
        simp only at ht10
        have HS10 := Lib.hid (HS9'.out.grow hg10 ht10)
        clear d0 d1 d2 d3 d4 d5 d6 n1 hf10 ht10 hg10
        go_wp2_with fail
        refine (alive_any w10).mono ?_
        rintro e w11 ⟨rfl, hb11⟩
        have HS11 := Lib.hid (HS10.out.below hb11)
        have x0 : w11.cell? ⟨v4.heap.size, 0, none⟩ = some (.slice A4 (f4.flat 0).length c4) := cell_row HS11.out.2.2.2.2.2 0 _ rfl
        have x1 : w11.cell? ⟨v4.heap.size, 1, none⟩ = some (.int .i64 next4) := cell_row HS11.out.2.2.2.2.2 1 _ rfl
        clear hb11
        go_wp2_with fail
        refine (stands_in A4 c4 next4 HS11.out.1 HS11.out.2.1).mono ?_
        rintro e w12 ⟨rfl, hb12⟩
        have HB12 : Hid (Below w0.heap.size w0 w12) := HS11.out.2.2.1.trans (hb12.mono HS11.out.2.2.1.size)
        clear hb12 x0 x1
        go_wp2_with fail
        go_ret
        exact ⟨rfl, HB0.out.trans (HB12.out.mono HB0.out.size)⟩
       ·have e9 : (E9 == 0) = false := by simpa using hE9
        obtain ⟨h1, h2⟩ := HNO2.out hE9
        have hf94 : f9 = f4 := Fo.flat_inj _ _ 0 h1
        subst f9
        obtain ⟨d0, d1, d2, d3, d4, d5, d6⟩ := hOX.out w9 HS9.out.2.2.1
        clear h1
        go_wp2_with fail
        clear d0 d1 d2 d3 d4 d5 d6
        refine (alive_any w9).mono ?_
        rintro e w11 ⟨rfl, hb11⟩
        have HS11 := Lib.hid (HS9.out.below hb11)
        have x0 : w11.cell? ⟨v4.heap.size, 0, none⟩ = some (.slice A4 (f4.flat 0).length c4) := cell_row HS11.out.2.2.2.2.2 0 _ rfl
        have x1 : w11.cell? ⟨v4.heap.size, 1, none⟩ = some (.int .i64 next4) := cell_row HS11.out.2.2.2.2.2 1 _ rfl
        clear hb11
        go_wp2_with fail
        refine (stands_in A4 c4 next4 HS11.out.1 HS11.out.2.1).mono ?_
        rintro e w12 ⟨rfl, hb12⟩
        have HB12 : Hid (Below w0.heap.size w0 w12) := HS11.out.2.2.1.trans (hb12.mono HS11.out.2.2.1.size)
        clear hb12 x0 x1
        go_wp2_with fail
        go_ret
        exact ⟨rfl, HB0.out.trans (HB12.out.mono HB0.out.size)⟩
      ·have hk' : (kv.1 == o.id) = false := by simpa using hkid
       have hnot' : Hid (∀ j' : Nat, j' < jn + 1 → (kidA (f4.flat 0) par (j' : Int)).1 ≠ o.id) := fun j' hj' => by
        by_cases e' : j' = jn
        ·subst e'; rw [HKV.out]; exact hkid
        ·exact hnot.out j' (by omega)
       clear hkid
       go_wp2_with fail
       go_roundw
       case rel => exact ⟨jn + 1, by go_num, by omega, by first | rfl | trivial, hnot'.out⟩
       case measure => simp [intOf]; omega
     ·have j1 : ¬ (jn : Int) < 1000 := by omega
      have HPL : Hid (∀ e' pe, f4.ent 0 o.id = some e' → f4.ent 0 e'.par = some pe → o.id ∈ pe.kids → pe.kids.length ≤ 1000 → pe.kids[jn]? = some o.id) := fun e' pe h1 h2 h3 h4 => by
       have h5 := HPAR.out e' h1
       rw [← h5] at h2
       obtain ⟨lq, kq, A9, B9, hsq, hkq, _, _, _, _, _⟩ := HS8.out.1.inv.stand h2
       obtain ⟨k, hk⟩ := List.mem_iff_getElem?.1 h3
       have hkl := (List.getElem?_eq_some_iff.1 hk).1
       have h6 := hnot.out k (by omega)
       rw [kid_stand hsq, ← hkq] at h6
       unfold kidE at h6
       rw [if_neg (by omega), show ((k : Int)).toNat = k by omega, hk] at h6
       exact absurd rfl h6
      go_upto_region 30 with (fail)
      -- from the first Move on: world wr, place jn
      obtain ⟨d0, d1, d2, d3, d4, d5, d6⟩ := hOX.out wr HS8.out.2.2.1
      obtain ⟨an2, han2⟩ : ∃ a, Hid (moveL (f4.flat 0) nx7 o.id o.to o.pl = a) := ⟨_, rfl⟩
      go_wp2_with fail
      refine (Move_in HS8.out.1 HSO.out.1.2.1 HSO.out.1.2.2.1 o.pl).mono ?_
      have hno2 := move_no (f4.flat 0) nx7 o.id o.to o.pl
      rw [han2.out] at hno2 ⊢
      obtain ⟨L9, NX9, ID9, E9⟩ := an2
      rintro e w9 ⟨rfl, M9, f9, hf9, ht9, hg9⟩
      obtain rfl : L9 = f9.flat 0 := hf9
      simp only at ht9 hno2
      have HS9 := Lib.hid (HS8.out.grow hg9 ht9)
      have hxn9 : w9.heap[nb]? = some (.cells #[.int .i64 ni, .int .i64 par, .int .i64 nk, .int .i64 nn, .string ⟨nm.toArray⟩, .string ⟨tx.toArray⟩, .slice An al.length cn] 50 (0, 0)) := (hg9.1.block nb HNZ.out HNM.out).trans HXN.out
      have HXN9 := Lib.hid hxn9
      have HNO2 := Lib.hid hno2
      clear d0 d1 d2 d3 d4 d5 d6 ht9 hg9 hxn9 hno2
      by_cases hE9 : E9 = 0
      ·have e9 : (E9 == 0) = true := by simpa using hE9
       subst hE9
       obtain ⟨f2, e', pe, q1, q2, q3, q4, q5, q6⟩ := move_fo HS8.out.1.inv han2.out
       have hf92 : f9 = f2 := Fo.flat_inj _ _ 0 q1
       subst f2
       have hnx9 : NX9 = nx7 := by
        have := (move_form (f4.flat 0) nx7 o.id o.to o.pl).1
        rw [han2.out] at this
        exact this
       have HS9' := HS9
       rw [hnx9] at HS9'
       have hpar : par = e'.par := HPAR.out e' q2
       have hback := q6 HS9'.out.1.inv jn (HPL.out e' pe q2 q3 q4 q5)
       rw [← hpar] at hback
       have hwp := HS9'.out.1.inv.wf
       have hwpar : wfI par := by rw [hpar]; exact HS8.out.1.inv.wf _ _ q3
       obtain ⟨d0, d1, d2, d3, d4, d5, d6⟩ := hOX.out w9 HS9.out.2.2.1
       have n1 := cell_row HXN9.out 1 _ rfl
       have HBACK := Lib.hid hback
       clear q1 q2 q3 q4 q5 q6 hpar hback hwp
       go_wp2_with fail
       refine (Move_in HS9'.out.1 HSO.out.1.2.1 hwpar (jn : Int)).mono ?_
       rw [HBACK.out]
       rintro e w10 ⟨rfl, M10, f10, hf10, ht10, hg10⟩
       have hf4 : f10 = f4 := (Fo.flat_inj _ _ 0 hf10).symm
       subst f10
       simp only at ht10
       have HS10 := Lib.hid (HS9'.out.grow hg10 ht10)
       clear d0 d1 d2 d3 d4 d5 d6 n1 hf10 ht10 hg10
       go_wp2_with fail
       refine (alive_any w10).mono ?_
       rintro e w11 ⟨rfl, hb11⟩
       have HS11 := Lib.hid (HS10.out.below hb11)
       have x0 : w11.cell? ⟨v4.heap.size, 0, none⟩ = some (.slice A4 (f4.flat 0).length c4) := cell_row HS11.out.2.2.2.2.2 0 _ rfl
       have x1 : w11.cell? ⟨v4.heap.size, 1, none⟩ = some (.int .i64 next4) := cell_row HS11.out.2.2.2.2.2 1 _ rfl
       clear hb11
       go_wp2_with fail
       refine (stands_in A4 c4 next4 HS11.out.1 HS11.out.2.1).mono ?_
       rintro e w12 ⟨rfl, hb12⟩
       have HB12 : Hid (Below w0.heap.size w0 w12) := HS11.out.2.2.1.trans (hb12.mono HS11.out.2.2.1.size)
       clear hb12 x0 x1
       go_wp2_with fail
       go_ret
       exact ⟨rfl, HB0.out.trans (HB12.out.mono HB0.out.size)⟩
      ·have e9 : (E9 == 0) = false := by simpa using hE9
       obtain ⟨h1, h2⟩ := HNO2.out hE9
       have hf94 : f9 = f4 := Fo.flat_inj _ _ 0 h1
       subst f9
       obtain ⟨d0, d1, d2, d3, d4, d5, d6⟩ := hOX.out w9 HS9.out.2.2.1
       clear h1
       go_wp2_with fail
       clear d0 d1 d2 d3 d4 d5 d6
       refine (alive_any w9).mono ?_
       rintro e w11 ⟨rfl, hb11⟩
       have HS11 := Lib.hid (HS9.out.below hb11)
       have x0 : w11.cell? ⟨v4.heap.size, 0, none⟩ = some (.slice A4 (f4.flat 0).length c4) := cell_row HS11.out.2.2.2.2.2 0 _ rfl
       have x1 : w11.cell? ⟨v4.heap.size, 1, none⟩ = some (.int .i64 next4) := cell_row HS11.out.2.2.2.2.2 1 _ rfl
       clear hb11
       go_wp2_with fail
       refine (stands_in A4 c4 next4 HS11.out.1 HS11.out.2.1).mono ?_
       rintro e w12 ⟨rfl, hb12⟩
       have HB12 : Hid (Below w0.heap.size w0 w12) := HS11.out.2.2.1.trans (hb12.mono HS11.out.2.2.1.size)
       clear hb12 x0 x1
       go_wp2_with fail
       go_ret
       exact ⟨rfl, HB0.out.trans (HB12.out.mono HB0.out.size)⟩
end Go.Proofs.YtmkgajdgnmolkaaGreat
