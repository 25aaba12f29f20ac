/-
  Texts of this claim, joined (by a program of the claim's author): Take, Parse, SmallPlain, RightI, BackTok, ParseLaw, BackPlain, Back5, Open, Again5.
-/
import Derived.Test.YthifddkmbjnncaaS1
import Derived.Test.YthifddkmbjnncaaS9
import Derived.Test.YthifddkmbjnncaaS6
import Derived.Test.YthifddkmbjnncaaS4
import Derived.Test.YthifddkmbjnncaaS5
import Derived.Test.YthifddkmbjnncaaRows
import Derived.Deep.Slices
import Derived.Deep.Fields
import Derived.ChangeSame
import Derived.Carry
import Derived.ProofKit
/-
  The reader of documents: the walk of take.
-/
namespace Go.Proofs.Ythifddkmbjnncaa
open Go.RowKit

set_option maxRecDepth 100000 in
theorem appendOw {w : World} {op : Oper} {a : Act} {K : Act → World → Prop} {Q : Exit → Act → World → Prop} (s x : Operand)
    (hop : op.op = .call { callee := .builtin .append, args := #[s, x], argTypes := #[69, 69] })
    (B : Nat) (A : Option Addr) (c : Nat) (o : List (List UInt8)) (n : List UInt8) (hs : a.eval s = .slice A o.length c) (hown : OpenOwn w B A c o) (hB : B ≤ w.heap.size)
    (X : Nat) (hx : a.eval x = .slice (some ⟨X, 0, none⟩) 1 1) (hX : X = w.heap.size) (hn : o.length < 4294967296)
    (h : ∀ A' c' w', OpenOwn w' B A' c' (o ++ [n]) → Below B w w' → w.heap.size < w'.heap.size → (w.alloc (.cells #[strV n] 9)).grownBy w' (Value.slice A o.length c).ownBlock → K (a.put op.dst (.slice A' (o.length + 1) c')) w') :
    op.wp Try.prog a (w.alloc (.cells #[strV n] 9)) K Q := by
  have hlen : (o ++ [n]).length = o.length + 1 := by simp
  rcases hown with ⟨rfl, rfl, rfl⟩ | ⟨g, cur, rfl, h2, h3, h4, h5, h6, h7, h8⟩
  · refine appendSw s x 69 hop B 9 (.string ByteArray.empty) 1 16 Try.underlying69 infoStr rfl (by decide) _ 0 [] [strV n] hs (World.ownsRow_nil _ _ _ _) hB X hx hX rfl (by intro u hu; simp at hu; subst hu; rfl) (by omega) (by decide) ?_
    intro ad cc w' hown' hb hz hg
    exact h ad cc w' (OpenOwn.own (o := [n]) hown') hb hz hg
  · by_cases hc : c = cur.size
    · have hrow : w.ownsRow B 9 1 (.slice (some ⟨g, 0, none⟩) o.length c) o.length (o.map strV) :=
        ⟨by simp, .inr ⟨g, c, cur, rfl, h2, h3, h4, by omega, by omega, by rw [Nat.mul_one]; exact h7⟩⟩
      refine appendSw s x 69 hop B 9 (.string ByteArray.empty) 1 16 Try.underlying69 infoStr rfl (by decide) _ o.length (o.map strV) [strV n] hs hrow hB X hx hX rfl (by intro u hu; simp at hu; subst hu; rfl) hn (by decide) ?_
      intro ad cc w' hown' hb hz hg
      refine h ad cc w' (OpenOwn.own ?_) hb hz hg
      rw [hlen, List.map_append]
      exact hown'
    · have hcn : c = o.length := by
        rcases h8 with h8 | h8
        · exact h8
        · exact absurd h8 hc
      subst hX
      obtain ⟨i0, hi0, hz0, hz1, hz2⟩ := info_parts infoStr
      have hg : g < w.heap.size := (Array.getElem?_eq_some_iff.1 h3).1
      obtain ⟨v', w', hrun, hown', hgr⟩ := run_append_arg_grows (P := Try.prog) (w.alloc (.cells #[strV n] 9)) 69 op.type 9 i0 (.string ByteArray.empty) 1 16 Try.underlying69 hi0 hz0 hz1 hz2 rfl (by decide) ⟨g, 0, none⟩ o.length c (o.map strV) (by simp) (by
        intro j u hu
        rw [add_zero_block, World.cell?_alloc_lt _ _ _ hg, cell_of_row h3]
        have hj : j < o.length := by have := (List.getElem?_eq_some_iff.1 hu).1; simpa using this
        rw [← h7, List.getElem?_take_of_lt hj, Array.getElem?_toList] at hu
        exact hu) ⟨w.heap.size, 0, none⟩ 1 1 [strV n] rfl (by
        intro j u hu
        rw [add_zero_block, World.cell?_alloc_at _ _ _ _ (by simp)]
        have hj : j < 1 := (List.getElem?_eq_some_iff.1 hu).1
        have hj0 : j = 0 := by omega
        subst hj0
        simpa using hu) (by omega) (by unfold maxLen; omega) (by omega)
      obtain ⟨ad, cc, rfl⟩ : ∃ ad cc, v' = .slice ad (o.length + 1) cc := by
        rcases hown'.2 with ⟨_, h0⟩ | ⟨g, c, cur, hv, _⟩
        · omega
        · exact ⟨_, c, hv⟩
      have hsz := hgr.size
      simp at hsz
      have hK := h ad cc w' (OpenOwn.own (by rw [hlen, List.map_append]; exact row_base hown' (by simp; omega))) (((Below.refl B w).alloc hB _).grown hgr (by simp; omega) (fun k hk => by cases hk)) (by omega) ⟨hgr.os, hgr.tape, hgr.output, hgr.size, fun k hk _ => hgr.block k hk (by simp)⟩
      unfold Oper.wp
      simp [execOp, hop, resolve, invoke, builtin, hs, hx, hrun, Result.andThen]
      exact hK

theorem OpenOwn.type {w : World} {B : Nat} {A : Option Addr} {c : Nat} {o : List (List UInt8)} (h : OpenOwn w B A c o) : ∀ g, (Value.slice A o.length c).ownBlock = some g → ∃ cur, w.heap[g]? = some (.cells cur 9 (0, 0)) := by
  intro g hg
  rcases h with ⟨rfl, _, _⟩ | ⟨g', cur, rfl, _, h3, _⟩
  · cases hg
  · injection hg with hg
    have e : g' = g := hg
    subst e
    exact ⟨cur, h3⟩

def TakePost (w : World) (B b : Nat) (V : Int ⊕ (List ItemD × List (List UInt8))) (e : Ending) (w' : World) : Prop :=
  Below B w w' ∧ match V with
  | .inl c => e = .returned (.int .i64 c)
  | .inr q => e = .returned (.int .i64 0) ∧ PInv w' B b q.1 q.2

theorem addE_K (items : List ItemD) (o : List (List UInt8)) (kind k : Int) (h : kind = 4 ↔ k = 2) : addE items o kind = addK items o k := by
  unfold addE addK
  by_cases hk : k = 2
  · simp [hk, h.2 hk]
  · have h4 : ¬ kind = 4 := fun e => hk (h.1 e)
    simp [hk, h4]

theorem add_any (b B : Nat) (items : List ItemD) (o : List (List UInt8)) (w : World) (h : PInv w B b items o) (hB : B ≤ b) (hBw : B ≤ w.heap.size) (ho : o.length ≤ 1000000000) (hi : items.length ≤ 1000000000) (x : ItemD) (A : Option Addr) (c : Nat) (hA : AttrsOwn w B A c x.attrs) (E : Int) (hE : Hid (addK items o x.kind = E)) :
    Calls Try.prog 81 #[.pointer (some ⟨b, 0, none⟩), .agg #[.int .i64 x.level, .int .i64 x.kind, .string ⟨x.name.toArray⟩, .string ⟨x.text.toArray⟩, .slice A x.attrs.length c]] w (AddPost w B b items o x E) := by
  by_cases h0 : E = 0
  · subst h0; exact add_yes b B items o w h hB hBw x A c hA hE.out
  · exact add_no b B items o w h hB hBw ho hi x A c E hE h0




set_option maxRecDepth 100000 in
set_option maxHeartbeats 4000000 in
theorem take_any (b B : Nat) (items : List ItemD) (o : List (List UInt8)) (w : World) (h : PInv w B b items o) (hB : B ≤ b) (hBw : B ≤ w.heap.size) (ho : o.length ≤ 1000000000) (hi : items.length ≤ 1000000000) (t : TokD) (at_ : Int) (A : Option Addr) (c : Nat) (hA : AttrsOwn w B A c t.attrs) (hk : t.kind = 1 ∨ t.kind = 2 ∨ t.kind = 3 ∨ t.kind = 4) (V : Int ⊕ (List ItemD × List (List UInt8))) (hV : Hid (takeT items o t = V)) :
    Calls Try.prog 48 #[.pointer (some ⟨b, 0, none⟩), .agg #[.int .i64 t.kind, .int .i64 at_, .string ⟨t.name.toArray⟩, .string ⟨t.text.toArray⟩, .slice A t.attrs.length c]] w (TakePost w B b V) := by
  obtain ⟨tk, tn, tt, ta⟩ := t
  simp only at hk hA ⊢
  have HA := Lib.hid hA
  have hbl : b < w.heap.size := by obtain ⟨S, IA, Ic, OA, Oc, h1, _⟩ := h.out; exact h1.lt
  clear hA
  rcases hk with rfl | rfl | rfl | rfl
  · obtain ⟨E, hE⟩ : ∃ E, Hid (addE items o 1 = E) := ⟨_, rfl⟩
    have hE' : Hid (addK items o 1 = E) := by show _ = _; rw [← hE.out]; exact (addE_K _ _ _ _ (by decide)).symm
    go_enter Try.func48, Try.ntmps48
    go_wp2_with fail
    obtain ⟨W1, hW1⟩ : ∃ W1, Hid (W1 = (w.alloc (.cells #[.int .i64 1, .int .i64 at_, .string ⟨tn.toArray⟩, .string ⟨tt.toArray⟩, .slice A ta.length c] 34)).alloc (.cells #[.int .i64 0, .int .i64 1, .string ⟨tn.toArray⟩, .string ⟨#[]⟩, .slice A ta.length c] 50)) := ⟨_, rfl⟩
    rw [← hW1.out]
    have hbW : Below w.heap.size w W1 := by rw [hW1.out]; exact ((Below.refl _ w).alloc (Nat.le_refl _) _).alloc (by simp) _
    have hP1 := PInv.below h hbW
    have hz1 : w.heap.size + 1 < W1.heap.size := by rw [hW1.out]; simp
    have y2 : W1.cell? ⟨w.heap.size, 2, none⟩ = some (.string ⟨tn.toArray⟩) := by
      rw [hW1.out, World.cell?_alloc_lt _ _ _ (by simp), World.cell?_alloc_at _ _ _ _ rfl]; rfl
    refine (add_any b B items o W1 hP1 hB (Nat.le_trans hBw hbW.size) ho hi ⟨0, 1, tn, [], ta⟩ A c (own_keep HA.out hbW) E hE').mono ?_
    rintro e W2 ⟨rfl, hP2, hb2, hkeep⟩
    by_cases h0 : E = 0
    · subst h0
      have HV : Hid (V = .inr (items ++ [⟨o.length, 1, tn, [], ta⟩], o ++ [tn])) := by
        show _ = _
        rw [← hV.out]; unfold takeT
        simp only
        rw [if_neg (by decide), hE.out, if_neg (by decide), if_pos trivial]
        rfl
      rw [if_pos rfl] at hP2
      have hP2' : PInv W2 B b (items ++ [⟨o.length, 1, tn, [], ta⟩]) o := hP2
      obtain ⟨S, IA, Ic, OA, Oc, h1, h2, h3, h4, h5⟩ := hP2'.out
      have HB2 := Lib.hid h1
      have H2 := Lib.hid h2
      have H3 : Hid (∀ s ∈ S, AttrsOwn W2 B s.2.1 s.2.2 s.1.attrs) := h3
      have H4 := Lib.hid h4
      have H5 := Lib.hid h5
      have hy : W1.heap[w.heap.size]? = some (.cells #[.int .i64 1, .int .i64 at_, .string ⟨tn.toArray⟩, .string ⟨tt.toArray⟩, .slice A ta.length c] 34 (0, 0)) := by
        rw [hW1.out]; exact heap_alloc2_old _ _ _
      have hy2 := (hkeep _ _ _ hy (by decide) (by omega)).trans hy
      have HS : Hid (W2.drew.cell? ⟨w.heap.size, 2, none⟩ = some (.string ⟨tn.toArray⟩)) := by show W2.cell? _ = _; rw [cell_of_row hy2]; rfl
      have hz2 : w.heap.size < W2.drew.heap.size := (Array.getElem?_eq_some_iff.1 hy2).1
      have hzB : B ≤ W2.drew.heap.size := Nat.le_trans hBw (Nat.le_trans hbW.size hb2.size)
      have hownb : (Value.slice OA o.length Oc).ownBlock ≠ some b := fun hg => by
        obtain ⟨cur, hc⟩ := h4.type b hg
        unfold PBlk at h1
        rw [hc] at h1
        injection h1 with h1
        injection h1 with _ h1
        exact absurd h1 (by decide)
      have hownt : (Value.slice OA o.length Oc).ownBlock ≠ some w.heap.size := fun hg => by
        obtain ⟨cur, hc⟩ := h4.type _ hg
        rw [hc] at hy2
        injection hy2 with hy2
        injection hy2 with _ hy2
        exact absurd hy2 (by decide)
      have hownt2 : ∀ g, (Value.slice OA o.length Oc).ownBlock = some g → ∀ cur e, W2.heap[g]? = some (.cells cur e (0, 0)) → e ≠ 9 → False := fun g hg cur e he hne => by
        obtain ⟨cur', hc⟩ := h4.type _ hg
        rw [hc] at he
        injection he with he
        injection he with _ he
        exact hne he.symm
      clear hy hy2 h1 h2 h3 h4 h5 hP2 hP2' hkeep
      go_wp2_with fail
      have z1d : W2.cell? ⟨b, 1, none⟩ = some (.slice OA o.length Oc) := HB2.out.cells.2.1
      have z1e : W2.drew.cell? ⟨b, 1, none⟩ = some (.slice OA o.length Oc) := HB2.out.cells.2.1
      have HS2 : Hid ((W2.drew.alloc (.cells #[.string ⟨tn.toArray⟩] 9)).cell? ⟨w.heap.size, 2, none⟩ = some (.string ⟨tn.toArray⟩)) := (World.cell?_alloc_lt _ _ _ hz2).trans HS.out
      have hbd : b < W2.heap.size := HB2.out.lt
      have z1f : (W2.drew.alloc (.cells #[.string ⟨tn.toArray⟩] 9)).cell? ⟨b, 1, none⟩ = some (.slice OA o.length Oc) := (World.cell?_alloc_lt _ _ _ hbd).trans z1e
      refine wp_region_held_drew (S := fun w' => w'.cell? ⟨w.heap.size, 2, none⟩ = some (.string ⟨tn.toArray⟩)) (by kernel_rfl) HS.out (fun hHeld => ?_)
      refine tks (oi := ⟨_, _, _, _, _, _⟩) (v := ?_) 0 rfl (.inl ⟨by rfl, ?_⟩) ?_; rotate_left
      · (intro wS hSw; (try dsimp only at hSw); go_simp); all_goals with_reducible rfl
      try go_frame
      refine tks (oi := ⟨_, _, _, _, _, _⟩) (v := ?_) 1 rfl (.inl ⟨by rfl, ?_⟩) ?_; rotate_left
      · (intro wS hSw; (try dsimp only at hSw); go_simp); all_goals with_reducible rfl
      try go_frame
      refine tks (oi := ⟨_, _, _, _, _, _⟩) (v := ?_) 2 rfl (.inl ⟨by rfl, ?_⟩) ?_; rotate_left
      · (intro wS hSw; (try dsimp only at hSw); go_simp); all_goals with_reducible rfl
      try go_frame
      refine tks (oi := ⟨_, _, _, _, _, _⟩) (v := ?_) 3 rfl (.inl ⟨by rfl, ?_⟩) ?_; rotate_left
      · (intro wS hSw; (try dsimp only at hSw); go_simp); all_goals with_reducible rfl
      try go_frame
      refine tks (oi := ⟨_, _, _, _, _, _⟩) (v := ?_) 5 rfl (.inl ⟨by rfl, ?_⟩) ?_; rotate_left
      · (intro wS hSw; (try dsimp only at hSw); go_simp); all_goals with_reducible rfl
      try go_frame
      refine tks (oi := ⟨_, _, _, _, _, _⟩) (v := ?_) 6 rfl (.inl ⟨by rfl, ?_⟩) ?_; rotate_left
      · (intro wS hSw; (try dsimp only at hSw); go_simp); all_goals with_reducible rfl
      try go_frame
      refine wpAnyH_ready (rs := [4, 7]) (by kernel_rfl) (by simp) ?_
      refine AllReadyH.cons (o := ⟨_, _, _, _, _, _⟩) rfl (fun K hK => ?_) (AllReadyH.cons (o := ⟨_, _, _, _, _, _⟩) rfl (fun K hK => ?_) AllReadyH.nil)
      · go_simp
        refine hK.out _ _ (HS.out) (fun hHeld => ?_)
        clear hK K
        try go_frame
        refine wpAnyH_ready (rs := [7]) (by kernel_rfl) (by simp) ?_
        refine AllReadyH.cons (o := ⟨_, _, _, _, _, _⟩) rfl (fun K hK => ?_) AllReadyH.nil
        go_simp
        refine hK.out _ _ (HS2.out) (fun hHeld => ?_)
        clear hK K
        try go_frame
        refine wpAnyH_ready (rs := [8]) (by kernel_rfl) (by simp) ?_
        refine AllReadyH.cons (o := ⟨_, _, _, _, _, _⟩) rfl (fun K hK => ?_) AllReadyH.nil
        refine appendOw (w := W2.drew) (.tmp 38) (.tmp 41) rfl B OA Oc o tn rfl H4.out hzB W2.drew.heap.size rfl rfl (by omega) ?_
        intro a4 c4 w4 hown4 hb4 hz4 hg4
        have hz4' : W2.heap.size < w4.heap.size := hz4
        have HB4 : Hid (PBlk w4 b IA S.length Ic OA o.length Oc) := by
          have h0 : PBlk (W2.drew.alloc (.cells #[.string ⟨tn.toArray⟩] 9)) b IA S.length Ic OA o.length Oc := PBlk.below (w := W2.drew) HB2.out ((Below.refl _ _).alloc (Nat.le_refl _) _)
          exact (hg4.block b h0.lt (fun e => hownb e.symm)).trans h0
        have HS4 : Hid (w4.cell? ⟨w.heap.size, 2, none⟩ = some (.string ⟨tn.toArray⟩)) := (World.grownBy.cell_far hg4 ⟨w.heap.size, 2, none⟩ (by show w.heap.size < _; have : w.heap.size < W2.heap.size := hz2; simp; omega) (fun e => hownt e.symm)).trans HS2.out
        obtain ⟨_, k1, _, kf1⟩ := HB4.out.cells
        refine hK.out _ _ (HS4.out) (fun hHeld => ?_)
        clear hK K
        try go_frame
        refine tks (oi := ⟨_, _, _, _, _, _⟩) (v := ?_) 9 rfl (.inl ⟨by rfl, ?_⟩) ?_; rotate_left
        · (intro wS hSw; (try dsimp only at hSw); go_simp); all_goals with_reducible rfl
        try go_frame
        refine tks (oi := ⟨_, _, _, _, _, _⟩) (v := ?_) 10 rfl (.inl ⟨by rfl, ?_⟩) ?_; rotate_left
        · (intro wS hSw; (try dsimp only at hSw); go_simp); all_goals with_reducible rfl
        try go_frame
        refine wpAnyH_ready (rs := [11]) (by kernel_rfl) (by simp) ?_
        refine AllReadyH.cons (o := ⟨_, _, _, _, _, _⟩) rfl (fun K hK => ?_) AllReadyH.nil
        go_simp
        have HS5 : Hid ((w4.setCell ⟨b, 1, none⟩ (.slice a4 (o.length + 1) c4)).cell? ⟨w.heap.size, 2, none⟩ = some (.string ⟨tn.toArray⟩)) := (World.grownBy.cell_far (Lib.grownBy_setCell w4 b 1 _) ⟨w.heap.size, 2, none⟩ (by show w.heap.size < _; have : w.heap.size < W2.heap.size := hz2; omega) (fun e => by injection e with e; have e' : w.heap.size = b := e; omega)).trans HS4.out
        refine hK.out _ _ (HS5.out) (fun hHeld => ?_)
        clear hK K
        try go_frame
        refine wpAnyH_done (by kernel_rfl) ?_ _
        clear hHeld
        go_wp2_with fail
        go_ret
        rw [HV.out]
        have halloc : ∀ {e : TypeId} {size : Nat} {v : Value} {n : Nat} {xs : List Value}, W2.ownsRow B e size v n xs → e ≠ 9 → w4.ownsRow B e size v n xs := fun hr he => by
          refine World.ownsRow.kept (World.ownsRow.alloc (w := W2.drew) hr _) hg4 ?_
          rename_i v _ _
          cases hv : v.ownBlock with
          | none => exact .inl rfl
          | some g =>
            refine .inr fun e => ?_
            obtain ⟨_, _, cur, hc⟩ := own_type hr g hv
            exact hownt2 g e.symm _ _ hc he
        refine ⟨(((hbW.mono hBw).trans hb2).drew.trans hb4).setCell hB _, rfl, ⟨S, IA, Ic, a4, c4, ?_, own_set HB4.out _ (halloc H2.out (by decide)) (by decide), fun s hs => own_set HB4.out _ (halloc (H3.out s hs) (by decide)) (by decide), open_set HB4.out _ hown4, H5.out⟩⟩
        have := HB4.out.setOpen a4 (o.length + 1) c4
        rw [List.length_append]
        exact this
      · go_simp
        refine hK.out _ _ (HS2.out) (fun hHeld => ?_)
        clear hK K
        try go_frame
        refine wpAnyH_ready (rs := [4]) (by kernel_rfl) (by simp) ?_
        refine AllReadyH.cons (o := ⟨_, _, _, _, _, _⟩) rfl (fun K hK => ?_) AllReadyH.nil
        go_simp
        refine hK.out _ _ (HS2.out) (fun hHeld => ?_)
        clear hK K
        try go_frame
        refine wpAnyH_ready (rs := [8]) (by kernel_rfl) (by simp) ?_
        refine AllReadyH.cons (o := ⟨_, _, _, _, _, _⟩) rfl (fun K hK => ?_) AllReadyH.nil
        refine appendOw (w := W2.drew) (.tmp 38) (.tmp 41) rfl B OA Oc o tn rfl H4.out hzB W2.drew.heap.size rfl rfl (by omega) ?_
        intro a4 c4 w4 hown4 hb4 hz4 hg4
        have hz4' : W2.heap.size < w4.heap.size := hz4
        have HB4 : Hid (PBlk w4 b IA S.length Ic OA o.length Oc) := by
          have h0 : PBlk (W2.drew.alloc (.cells #[.string ⟨tn.toArray⟩] 9)) b IA S.length Ic OA o.length Oc := PBlk.below (w := W2.drew) HB2.out ((Below.refl _ _).alloc (Nat.le_refl _) _)
          exact (hg4.block b h0.lt (fun e => hownb e.symm)).trans h0
        have HS4 : Hid (w4.cell? ⟨w.heap.size, 2, none⟩ = some (.string ⟨tn.toArray⟩)) := (World.grownBy.cell_far hg4 ⟨w.heap.size, 2, none⟩ (by show w.heap.size < _; have : w.heap.size < W2.heap.size := hz2; simp; omega) (fun e => hownt e.symm)).trans HS2.out
        obtain ⟨_, k1, _, kf1⟩ := HB4.out.cells
        refine hK.out _ _ (HS4.out) (fun hHeld => ?_)
        clear hK K
        try go_frame
        refine tks (oi := ⟨_, _, _, _, _, _⟩) (v := ?_) 9 rfl (.inl ⟨by rfl, ?_⟩) ?_; rotate_left
        · (intro wS hSw; (try dsimp only at hSw); go_simp); all_goals with_reducible rfl
        try go_frame
        refine tks (oi := ⟨_, _, _, _, _, _⟩) (v := ?_) 10 rfl (.inl ⟨by rfl, ?_⟩) ?_; rotate_left
        · (intro wS hSw; (try dsimp only at hSw); go_simp); all_goals with_reducible rfl
        try go_frame
        refine wpAnyH_ready (rs := [11]) (by kernel_rfl) (by simp) ?_
        refine AllReadyH.cons (o := ⟨_, _, _, _, _, _⟩) rfl (fun K hK => ?_) AllReadyH.nil
        go_simp
        have HS5 : Hid ((w4.setCell ⟨b, 1, none⟩ (.slice a4 (o.length + 1) c4)).cell? ⟨w.heap.size, 2, none⟩ = some (.string ⟨tn.toArray⟩)) := (World.grownBy.cell_far (Lib.grownBy_setCell w4 b 1 _) ⟨w.heap.size, 2, none⟩ (by show w.heap.size < _; have : w.heap.size < W2.heap.size := hz2; omega) (fun e => by injection e with e; have e' : w.heap.size = b := e; omega)).trans HS4.out
        refine hK.out _ _ (HS5.out) (fun hHeld => ?_)
        clear hK K
        try go_frame
        refine wpAnyH_done (by kernel_rfl) ?_ _
        clear hHeld
        go_wp2_with fail
        go_ret
        rw [HV.out]
        have halloc : ∀ {e : TypeId} {size : Nat} {v : Value} {n : Nat} {xs : List Value}, W2.ownsRow B e size v n xs → e ≠ 9 → w4.ownsRow B e size v n xs := fun hr he => by
          refine World.ownsRow.kept (World.ownsRow.alloc (w := W2.drew) hr _) hg4 ?_
          rename_i v _ _
          cases hv : v.ownBlock with
          | none => exact .inl rfl
          | some g =>
            refine .inr fun e => ?_
            obtain ⟨_, _, cur, hc⟩ := own_type hr g hv
            exact hownt2 g e.symm _ _ hc he
        refine ⟨(((hbW.mono hBw).trans hb2).drew.trans hb4).setCell hB _, rfl, ⟨S, IA, Ic, a4, c4, ?_, own_set HB4.out _ (halloc H2.out (by decide)) (by decide), fun s hs => own_set HB4.out _ (halloc (H3.out s hs) (by decide)) (by decide), open_set HB4.out _ hown4, H5.out⟩⟩
        have := HB4.out.setOpen a4 (o.length + 1) c4
        rw [List.length_append]
        exact this
    · have HV : Hid (V = .inl E) := by
        show _ = _
        rw [← hV.out]; unfold takeT
        simp only
        rw [if_neg (by decide), hE.out, if_pos h0]
      have h0' : (E == 0) = false := by simpa using h0
      clear h0 hP2
      go_wp2_with fail
      go_ret
      rw [HV.out]
      exact ⟨(hbW.mono hBw).trans hb2, rfl⟩
  · obtain ⟨v, hv⟩ : ∃ v, Hid (decide (o.getLast? = some tn) = v) := ⟨_, rfl⟩
    have HV : Hid (V = if v then .inr (items, o.dropLast) else .inl 41) := by
      show _ = _
      rw [← hV.out, ← hv.out]; unfold takeT
      simp only
      rw [if_pos trivial]
      by_cases hq : o.getLast? = some tn
      · simp [hq]
      · simp [hq]
    go_enter Try.func48, Try.ntmps48
    go_wp2_with fail
    obtain ⟨W1, hW1⟩ : ∃ W1, Hid (W1 = (w.alloc (.cells #[.int .i64 2, .int .i64 at_, .string ⟨tn.toArray⟩, .string ⟨tt.toArray⟩, .slice A ta.length c] 34)).alloc (.cells #[.int .i64 0, .int .i64 1, .string ⟨tn.toArray⟩, .string ⟨#[]⟩, .slice A ta.length c] 50)) := ⟨_, rfl⟩
    rw [← hW1.out]
    have hbW : Below w.heap.size w W1 := by rw [hW1.out]; exact ((Below.refl _ w).alloc (Nat.le_refl _) _).alloc (by simp) _
    have hP1 := PInv.below h hbW
    have hz1 : w.heap.size + 1 < W1.heap.size := by rw [hW1.out]; simp
    cases v with
    | true =>
      refine (close_any b B items o W1 hP1 hB (Nat.le_trans hBw hbW.size) ho ⟨2, tn, tt, ta⟩ at_ A c true hv).mono ?_
      rintro e W2 ⟨rfl, hP2, hb2⟩
      go_wp2_with fail
      go_ret
      rw [HV.out.trans (if_pos trivial)]
      exact ⟨(hbW.mono hBw).trans hb2, rfl, hP2⟩
    | false =>
      refine (close_any b B items o W1 hP1 hB (Nat.le_trans hBw hbW.size) ho ⟨2, tn, tt, ta⟩ at_ A c false hv).mono ?_
      rintro e W2 ⟨rfl, hP2, hb2⟩
      go_wp2_with fail
      go_ret
      rw [HV.out.trans (if_neg (by decide))]
      exact ⟨(hbW.mono hBw).trans hb2, rfl⟩
  · obtain ⟨E, hE⟩ : ∃ E, Hid (addE items o 3 = E) := ⟨_, rfl⟩
    have hE' : Hid (addK items o 1 = E) := by show _ = _; rw [← hE.out]; exact (addE_K _ _ _ _ (by decide)).symm
    go_enter Try.func48, Try.ntmps48
    go_wp2_with fail
    obtain ⟨W1, hW1⟩ : ∃ W1, Hid (W1 = (w.alloc (.cells #[.int .i64 3, .int .i64 at_, .string ⟨tn.toArray⟩, .string ⟨tt.toArray⟩, .slice A ta.length c] 34)).alloc (.cells #[.int .i64 0, .int .i64 1, .string ⟨tn.toArray⟩, .string ⟨#[]⟩, .slice A ta.length c] 50)) := ⟨_, rfl⟩
    rw [← hW1.out]
    have hbW : Below w.heap.size w W1 := by rw [hW1.out]; exact ((Below.refl _ w).alloc (Nat.le_refl _) _).alloc (by simp) _
    have hP1 := PInv.below h hbW
    have hz1 : w.heap.size + 1 < W1.heap.size := by rw [hW1.out]; simp
    refine (add_any b B items o W1 hP1 hB (Nat.le_trans hBw hbW.size) ho hi ⟨0, 1, tn, [], ta⟩ A c (own_keep HA.out hbW) E hE').mono ?_
    rintro e W2 ⟨rfl, hP2, hb2, hkeep⟩
    go_wp2_with fail
    go_ret
    by_cases h0 : E = 0
    · subst h0
      have HV : V = .inr (items ++ [⟨o.length, 1, tn, [], ta⟩], o) := by
        rw [← hV.out]; unfold takeT
        simp only
        rw [if_neg (by decide), hE.out, if_neg (by decide), if_neg (by decide)]
        rfl
      rw [HV]
      rw [if_pos rfl] at hP2
      exact ⟨(hbW.mono hBw).trans hb2, rfl, hP2⟩
    · have HV : V = .inl E := by
        rw [← hV.out]; unfold takeT
        simp only
        rw [if_neg (by decide), hE.out, if_pos h0]
      rw [HV]
      exact ⟨(hbW.mono hBw).trans hb2, rfl⟩
  · obtain ⟨E, hE⟩ : ∃ E, Hid (addE items o 4 = E) := ⟨_, rfl⟩
    have hE' : Hid (addK items o 2 = E) := by show _ = _; rw [← hE.out]; exact (addE_K _ _ _ _ (by decide)).symm
    go_enter Try.func48, Try.ntmps48
    go_wp2_with fail
    obtain ⟨W1, hW1⟩ : ∃ W1, Hid (W1 = (w.alloc (.cells #[.int .i64 4, .int .i64 at_, .string ⟨tn.toArray⟩, .string ⟨tt.toArray⟩, .slice A ta.length c] 34)).alloc (.cells #[.int .i64 0, .int .i64 2, .string ⟨#[]⟩, .string ⟨tt.toArray⟩, .slice none 0 0] 50)) := ⟨_, rfl⟩
    rw [← hW1.out]
    have hbW : Below w.heap.size w W1 := by rw [hW1.out]; exact ((Below.refl _ w).alloc (Nat.le_refl _) _).alloc (by simp) _
    have hP1 := PInv.below h hbW
    have hz1 : w.heap.size + 1 < W1.heap.size := by rw [hW1.out]; simp
    refine (add_any b B items o W1 hP1 hB (Nat.le_trans hBw hbW.size) ho hi ⟨0, 2, [], tt, []⟩ none 0 (World.ownsRow_nil _ _ _ _) E hE').mono ?_
    rintro e W2 ⟨rfl, hP2, hb2, hkeep⟩
    go_wp2_with fail
    go_ret
    by_cases h0 : E = 0
    · subst h0
      have HV : V = .inr (items ++ [⟨o.length, 2, [], tt, []⟩], o) := by
        rw [← hV.out]; unfold takeT
        simp only
        rw [if_neg (by decide), hE.out, if_neg (by decide), if_neg (by decide)]
        rfl
      rw [HV]
      rw [if_pos rfl] at hP2
      exact ⟨(hbW.mono hBw).trans hb2, rfl, hP2⟩
    · have HV : V = .inl E := by
        rw [← hV.out]; unfold takeT
        simp only
        rw [if_neg (by decide), hE.out, if_pos h0]
      rw [HV]
      exact ⟨(hbW.mono hBw).trans hb2, rfl⟩
end Go.Proofs.Ythifddkmbjnncaa

/-
  parse.Parse walked.
-/
namespace Go.Proofs.Ythifddkmbjnncaa
open Go.RowKit

def ParsePost (w : World) (R : List ItemD × Nat × Int) (e : Ending) (w' : World) : Prop :=
  Below w.heap.size w w' ∧ ((R.2.2 = 0 ∧ ∃ A c S, e = .returned (.tuple #[.slice A S.length c, .int .i64 0, .int .i64 0]) ∧ ItemsOwn w' w.heap.size A c S ∧ (∀ s ∈ S, AttrsOwn w' w.heap.size s.2.1 s.2.2 s.1.attrs) ∧ S.map (·.1) = R.1)
    ∨ (R.2.2 ≠ 0 ∧ e = .returned (.tuple #[.slice none 0 0, .int .i64 R.2.1, .int .i64 R.2.2])))

theorem takeT_small {items : List ItemD} {o : List (List UInt8)} {t : TokD} {q : List ItemD × List (List UInt8)} (h : takeT items o t = .inr q) : q.1.length ≤ items.length + 1 ∧ q.2.length ≤ o.length + 1 := by
  unfold takeT at h
  split at h
  · split at h
    · injection h with h; subst h; simp; omega
    · cases h
  · split at h
    · cases h
    · injection h with h; subst h
      refine ⟨by simp, ?_⟩
      simp only
      split
      · simp
      · omega
theorem takeT_ne {items : List ItemD} {o : List (List UInt8)} {t : TokD} {e : Int} (h : takeT items o t = .inl e) : e ≠ 0 := by
  unfold takeT at h
  split at h
  · split at h
    · cases h
    · injection h with h; omega
  · split at h
    · rename_i hn; injection h with h; rw [← h]; exact hn
    · cases h
theorem tok_kinds {l : List UInt8} {t : TokD} {n : Nat} (h : oneT l = .ok t n) : t.kind = 1 ∨ t.kind = 2 ∨ t.kind = 3 ∨ t.kind = 4 := by
  rcases oneT_fine h with ⟨hk, _⟩ | ⟨hk, _⟩ | ⟨hk, _⟩
  · exact .inr (.inr (.inr hk))
  · exact .inr (.inl hk)
  · rcases hk with hk | hk
    · exact .inl hk
    · exact .inr (.inr (.inl hk))
theorem parseF_form : ∀ (f : Nat) (p : Nat) (l : List UInt8) (items : List ItemD) (o : List (List UInt8)), (parseF f p l items o).2.2 ≠ 0 → (parseF f p l items o).1 = []
  | 0, p, l, items, o, h => by
    rw [parseF] at h ⊢
    unfold endP at h ⊢
    split
    · rfl
    · rename_i hi; rw [if_neg hi] at h
      split
      · rfl
      · rename_i ho; rw [if_neg ho] at h; exact absurd rfl h
  | f + 1, p, l, items, o, h => by
    rw [parseF] at h ⊢
    split
    · rename_i hl
      rw [if_pos hl] at h
      unfold endP at h ⊢
      split
      · rfl
      · rename_i hi; rw [if_neg hi] at h
        split
        · rfl
        · rename_i ho; rw [if_neg ho] at h; exact absurd rfl h
    · rename_i hl
      rw [if_neg hl] at h
      cases ho : oneT l with
      | bad k e => rfl
      | ok t n =>
        rw [ho] at h
        simp only at h ⊢
        cases ht : takeT items o t with
        | inl e => rfl
        | inr q =>
          rw [ht] at h
          exact parseF_form f _ _ _ _ h

set_option maxRecDepth 100000 in
set_option maxHeartbeats 4000000 in
theorem Parse_wide (s : ByteArray) (w : World) (hs : s.size ≤ 250000000) (R : List ItemD × Nat × Int) (hR : Hid (parseL 0 s.data.toList [] [] = R)) :
    Calls Try.prog 24 #[.string s] w (ParsePost w R) := by
  have HL := Lib.hid (size_toList s)
  have hR0 : Hid (parseL 0 (s.data.toList.drop 0) [] [] = R) := by show _ = _; rw [List.drop_zero]; exact hR.out
  go_enter Try.func24, Try.ntmps24
  go_wp2_with fail
  obtain ⟨b, hbq⟩ : ∃ b, Hid (b = w.heap.size) := ⟨_, rfl⟩
  obtain ⟨W0, hW0⟩ : ∃ W0, Hid (W0 = w.alloc (.cells #[.slice none 0 0, .slice none 0 0] 71)) := ⟨_, rfl⟩
  rw [← hW0.out]
  rw [← hbq.out]
  have hP0 : PInv W0 w.heap.size b [] [] := by
    refine ⟨[], none, 0, none, 0, ?_, World.ownsRow_nil _ _ _ _, fun _ h => absurd h List.not_mem_nil, .inl ⟨rfl, rfl, rfl⟩, rfl⟩
    show W0.heap[b]? = _
    rw [hW0.out, hbq.out]
    exact heap_alloc_new w _
  have hb0 : Below w.heap.size w W0 := by rw [hW0.out]; exact (Below.refl _ w).alloc (Nat.le_refl _) _
  have hBb : w.heap.size ≤ b := by rw [hbq.out]; exact Nat.le_refl _
  go_loopw [6] (fun i wr => ∃ (p : Nat) (items : List ItemD) (o : List (List UInt8)), p ≤ s.size ∧ items.length ≤ p ∧ o.length ≤ p ∧ i = .int .i64 p ∧ Hid (PInv wr w.heap.size b items o) ∧ Hid (Below w.heap.size w wr) ∧ Hid (parseL p (s.data.toList.drop p) items o = R)) (fun i _ => s.size - (intOf i).toNat)
  case atStart => exact ⟨0, [], [], Nat.zero_le _, Nat.zero_le _, Nat.zero_le _, rfl, hP0, hb0, hR0.out⟩
  case round =>
    obtain ⟨p, items, o, hps, hip, hop, rfl, hP, hbel, hin⟩ := hrel
    by_cases hlt : p < s.size
    · have hlt' : (p : Int) < s.size := by omega
      have hne : Hid (s.data.toList.drop p ≠ []) := by
        show _ ≠ _
        intro e
        have := congrArg List.length e
        rw [List.length_drop, HL.out] at this
        simp at this; omega
      obtain ⟨V, hV⟩ : ∃ V, Hid (oneT (s.data.toList.drop p) = V) := ⟨_, rfl⟩
      have hwit := oneT_within _ hne.out
      rw [hV.out, List.length_drop, HL.out] at hwit
      have hs' : s.size ≤ 1000000000 := by omega
      go_wp2_with fail
      refine (One_any s p wr hlt hs' V hV).mono ?_
      rintro e1 w2 ⟨hb2, hpost⟩
      have hbw2 : Below w.heap.size w w2 := hbel.out.trans (hb2.mono hbel.out.size)
      cases V with
      | bad k e =>
        have he : e ≠ 0 := hwit.2
        have he1 : (e != 0) = true := by simpa using he
        have HE := Lib.hid he
        have HR : Hid (R = ([], p + k, e)) := by
          show _ = _
          rw [← hin.out, parseL_bad _ _ _ _ hne.out k e hV.out]
        have hee : e1 = .returned (.tuple #[.agg #[.int .i64 0, .int .i64 0, .string ⟨#[]⟩, .string ⟨#[]⟩, .slice none 0 0], .int .i64 0, .int .i64 (p + k : Nat), .int .i64 e]) := hpost
        clear he hwit hpost
        subst hee
        go_wp2_with fail
        go_ret3
        rw [HR.out]
        exact ⟨hbw2.alloc hbw2.size _, .inr ⟨HE.out, rfl⟩⟩
      | ok t n =>
        obtain ⟨A2, c2, hee0, hA2'⟩ := hpost
        have hA2 := Lib.hid hA2'
        clear hA2'
        have hee : e1 = .returned (.tuple #[.agg #[.int .i64 t.kind, .int .i64 p, .string ⟨t.name.toArray⟩, .string ⟨t.text.toArray⟩, .slice A2 t.attrs.length c2], .int .i64 (p + n : Nat), .int .i64 0, .int .i64 0]) := hee0
        clear hee0
        subst hee
        obtain ⟨hn1, hn2⟩ := hwit
        have hkk := tok_kinds hV.out
        obtain ⟨W2, hW2⟩ : ∃ W2, Hid (W2 = w2.alloc (.cells #[.int .i64 t.kind, .int .i64 p, .string ⟨t.name.toArray⟩, .string ⟨t.text.toArray⟩, .slice A2 t.attrs.length c2] 34)) := ⟨_, rfl⟩
        have hb2' : Below wr.heap.size wr W2 := by rw [hW2.out]; exact hb2.alloc hb2.size _
        have hbw : Below w.heap.size w W2 := hbel.out.trans (hb2'.mono hbel.out.size)
        have HP2 := Lib.hid (PInv.below hP.out hb2')
        have HA2 : Hid (AttrsOwn W2 w.heap.size A2 c2 t.attrs) := by
          show AttrsOwn _ _ _ _ _
          rw [hW2.out]
          exact row_base (World.ownsRow.alloc hA2.out _) hbel.out.size
        obtain ⟨q, hq⟩ : ∃ q, Hid (takeT items o t = q) := ⟨_, rfl⟩
        have HK := Lib.hid hkk
        clear hkk
        go_wp2_with fail
        rw [← hW2.out]
        refine (take_any b w.heap.size items o W2 HP2.out hBb hbw.size (by omega) (by omega) t p A2 c2 HA2.out HK.out q hq).mono ?_
        rintro e w3 ⟨hb3, hpost3⟩
        cases q with
        | inl e' =>
          obtain rfl := hpost3
          have HE : Hid (e' ≠ 0) := takeT_ne hq.out
          have he1 : (e' != 0) = true := by simpa using HE.out
          have HR : Hid (R = ([], p, e')) := by
            show _ = _
            rw [← hin.out, parseL_no _ _ _ _ hne.out t n hV.out e' hq.out]
          go_wp2_with fail
          go_ret3
          rw [HR.out]
          exact ⟨hbw.trans hb3, .inr ⟨HE.out, rfl⟩⟩
        | inr q =>
          obtain ⟨rfl, hP3⟩ := hpost3
          obtain ⟨hq1, hq2⟩ := takeT_small hq.out
          have HIN : Hid (parseL (p + n) (s.data.toList.drop (p + n)) q.1 q.2 = R) := by
            show _ = _
            rw [← hin.out, parseL_step _ _ _ _ hne.out t n hV.out q hq.out, List.drop_drop]
          have HP3 := Lib.hid hP3
          clear hP3
          go_wp2_with fail
          go_roundw
          case rel => exact ⟨p + n, q.1, q.2, by omega, by omega, by omega, by go_num, HP3.out, hbw.trans hb3, HIN.out⟩
          case measure => simp [intOf]; omega
    · have hlt' : (s.size : Int) ≤ (p : Int) := by omega
      have hpe : Hid (p = s.size) := by show p = s.size; omega
      have HR : Hid (R = endP items o s.size) := by
        show _ = _
        rw [← hin.out, List.drop_eq_nil_of_le (by rw [HL.out]; omega), parseL_nil, hpe.out]
      obtain ⟨S, IA, Ic, OA, Oc, h1, h2, h3, h4, h5⟩ := hP.out.out
      obtain ⟨z0, z1, _⟩ := h1.cells
      have hlen : Hid (S.length = items.length) := by show _ = _; rw [← h5, List.length_map]
      have H2 := Lib.hid h2
      have H3 : Hid (∀ s ∈ S, AttrsOwn wr w.heap.size s.2.1 s.2.2 s.1.attrs) := h3
      have H5 := Lib.hid h5
      clear h1 h2 h3 h4 h5
      by_cases hi0 : items = []
      · have hv : Hid (R = ([], s.size, 40)) := by show _ = _; rw [HR.out]; unfold endP; rw [if_pos hi0]
        have t0 : ((S.length : Int) == 0) = true := by have := hlen.out; rw [hi0] at this; simp [this]
        clear hi0
        go_wp2_with fail
        go_ret3
        rw [hv.out]
        exact ⟨hbel.out, .inr ⟨by simp, rfl⟩⟩
      · have hpos : 0 < items.length := List.length_pos_iff.2 hi0
        have t0 : ((S.length : Int) == 0) = false := beq_eq_false_iff_ne.2 (by have := hlen.out; omega)
        by_cases ho0 : o = []
        · have hv : Hid (R = (items, 0, 0)) := by show _ = _; rw [HR.out]; unfold endP; rw [if_neg hi0, if_neg (fun h => h ho0)]
          have t1 : o.length ≤ 0 := by rw [ho0]; simp
          clear hi0 ho0
          go_wp2_with fail
          all_goals try (exfalso; omega)
          go_ret3
          rw [hv.out]
          exact ⟨hbel.out, .inl ⟨rfl, IA, Ic, S, rfl, H2.out, H3.out, H5.out⟩⟩
        · have hv : Hid (R = ([], s.size, 41)) := by show _ = _; rw [HR.out]; unfold endP; rw [if_neg hi0, if_pos ho0]
          have t1 : 0 < o.length := List.length_pos_iff.2 ho0
          clear hi0 ho0
          go_wp2_with fail
          all_goals try (exfalso; omega)
          go_ret3
          rw [hv.out]
          exact ⟨hbel.out, .inr ⟨by simp, rfl⟩⟩
theorem Parse_any (s : ByteArray) (w : World) (hs : s.size ≤ 100000000) (R : List ItemD × Nat × Int) (hR : Hid (parseL 0 s.data.toList [] [] = R)) :
    Calls Try.prog 24 #[.string s] w (ParsePost w R) := Parse_wide s w (by omega) R hR
end Go.Proofs.Ythifddkmbjnncaa

/-
  The plain law of sizes: what is told of tokens, and what is read, is no longer than what it was told of. No program in sight.
-/
namespace Go.Proofs.Ythifddkmbjnncaa

def AttrSm (N : Nat) (a : AttrD) : Prop := a.name.length ≤ N ∧ a.value.length ≤ 1500
theorem attrL_sm {l : List UInt8} {bs : List AttrD} {a : AttrD} {n : Nat} (h : attrL l bs = .ok a n) : AttrSm l.length a := by
  have hw := wordL_len l
  unfold attrL at h
  simp only at h
  split at h
  · cases h
  split at h
  · cases h
  split at h
  · cases h
  split at h
  · cases h
  split at h
  · cases h
  unfold valueT at h
  simp only at h
  split at h
  · cases h
  split at h
  · cases h
  split at h
  · cases h
  · rename_i h5
    injection h with h _
    subst h
    exact ⟨hw, by simpa using h5⟩
theorem attrsF_sm (N : Nat) : ∀ (f : Nat) (l : List UInt8) (bs : List AttrD) (q : Int × List AttrD) (n : Nat), l.length ≤ N → (∀ b ∈ bs, AttrSm N b) → attrsF f l bs = .ok q n → ∀ b ∈ q.2, AttrSm N b
  | 0, _, _, _, _, _, _, h => by cases h
  | f + 1, l, bs, q, n, hl, hb, h => by
    rw [attrsF] at h
    split at h
    · injection h with h _; subst h; exact hb
    split at h
    · injection h with h _; subst h; exact hb
    split at h
    · cases h
    cases ha : attrL (l.drop (skipL l)) bs with
    | bad k e => rw [ha] at h; cases h
    | ok a m =>
      rw [ha] at h
      simp only at h
      have hs := attrL_sm ha
      rw [List.length_drop] at hs
      cases hq : attrsF f ((l.drop (skipL l)).drop m) (bs ++ [a]) with
      | bad k e => rw [hq] at h; cases h
      | ok r k =>
        rw [hq] at h
        injection h with h _
        subst h
        refine attrsF_sm N f _ _ _ _ (by simp only [List.length_drop]; omega) (fun b hb' => ?_) hq
        rcases List.mem_append.1 hb' with hb' | hb'
        · exact hb b hb'
        · simp at hb'; subst hb'; exact ⟨by have := hs.1; omega, hs.2⟩

/-- no part of a token is longer than what it was told of -/
structure TokSm (N : Nat) (t : TokD) : Prop where
  name : t.name.length ≤ N
  text : t.text.length ≤ 1500
  many : t.attrs.length ≤ 20
  attrs : ∀ a ∈ t.attrs, AttrSm N a
theorem tok_sm {l : List UInt8} {t : TokD} {n : Nat} (h : oneT l = .ok t n) : TokSm l.length t := by
  have hm := (tok_parts h).2.2.2.1
  unfold oneT at h
  split at h
  · cases he : endT (l.drop 2) with
    | bad k e => rw [he] at h; cases h
    | ok u k =>
      rw [he] at h
      injection h with h _
      subst h
      have hw := wordL_len (l.drop 2)
      rw [List.length_drop] at hw
      unfold endT at he
      simp only at he
      split at he
      · cases he
      split at he
      · injection he with he _
        subst he
        exact ⟨by show (wordL (l.drop 2)).length ≤ _; omega, by simp, by simp, fun a h => by cases h⟩
      · cases he
  · split at h
    · cases he : beginT (l.drop 1) with
      | bad k e => rw [he] at h; cases h
      | ok u k =>
        rw [he] at h
        injection h with h _
        subst h
        have hw := wordL_len (l.drop 1)
        rw [List.length_drop] at hw
        unfold beginT at he
        simp only at he
        split at he
        · cases he
        cases ha : attrsF ((l.drop 1).length + 1) ((l.drop 1).drop (wordL (l.drop 1)).length) [] with
        | bad k e => rw [ha] at he; cases he
        | ok q m =>
          rw [ha] at he
          injection he with he _
          subst he
          have hs := attrsF_sm l.length _ _ _ _ _ (by simp only [List.length_drop]; omega) (fun _ h => by cases h) ha
          exact ⟨by show (wordL (l.drop 1)).length ≤ _; omega, by simp, hm, fun a h => hs a ((sortA_perm q.2).mem_iff.1 h)⟩
    · unfold textT at h
      simp only at h
      split at h
      · cases h
      split at h
      · cases h
      · rename_i h5
        injection h with h _
        subst h
        exact ⟨by simp, by simpa using h5, by simp, fun a h => by cases h⟩

structure ItemSm (N : Nat) (x : ItemD) : Prop where
  name : x.name.length ≤ N
  text : x.text.length ≤ 1500
  many : x.attrs.length ≤ 20
  attrs : ∀ a ∈ x.attrs, AttrSm N a
  level : 0 ≤ x.level ∧ x.level < 40
theorem AttrSm.more {N M : Nat} {a : AttrD} (h : AttrSm N a) (hm : N ≤ M) : AttrSm M a := ⟨Nat.le_trans h.1 hm, h.2⟩
theorem takeT_sm {N : Nat} {items : List ItemD} {o : List (List UInt8)} {t : TokD} {q : List ItemD × List (List UInt8)} (hi : ∀ x ∈ items, ItemSm N x) (ht : TokSm N t) (h : takeT items o t = .inr q) : ∀ x ∈ q.1, ItemSm N x := by
  unfold takeT at h
  split at h
  · split at h
    · injection h with h; subst h; exact hi
    · cases h
  · split at h
    · cases h
    · rename_i he
      injection h with h; subst h
      intro x hx
      rcases List.mem_append.1 hx with hx | hx
      · exact hi x hx
      · simp at hx; subst hx
        have hd : o.length < 40 := by
          have he' : addE items o t.kind = 0 := by simpa using he
          unfold addE at he'
          split at he'
          · omega
          split at he'
          · omega
          · omega
        unfold itemOf
        split
        · exact ⟨by simp, ht.text, by simp, (fun a h => by cases h), ⟨by simp, by simp; omega⟩⟩
        · exact ⟨ht.name, by simp, ht.many, ht.attrs, ⟨by simp, by simp; omega⟩⟩
theorem parseF_sm (N : Nat) : ∀ (f : Nat) (p : Nat) (l : List UInt8) (items : List ItemD) (o : List (List UInt8)), l.length ≤ N → (∀ x ∈ items, ItemSm N x) → ∀ x ∈ (parseF f p l items o).1, ItemSm N x
  | 0, p, l, items, o, _, hi => by
    rw [parseF]; unfold endP
    split
    · intro x h; cases h
    split
    · intro x h; cases h
    · exact hi
  | f + 1, p, l, items, o, hl, hi => by
    rw [parseF]
    split
    · unfold endP
      split
      · intro x h; cases h
      split
      · intro x h; cases h
      · exact hi
    · cases ho : oneT l with
      | bad k e => intro x h; cases h
      | ok t n =>
        simp only
        cases ht : takeT items o t with
        | inl e => intro x h; cases h
        | inr q =>
          simp only
          have hts := tok_sm ho
          exact parseF_sm N f _ _ _ _ (by rw [List.length_drop]; omega) (takeT_sm hi ⟨Nat.le_trans hts.name hl, hts.text, hts.many, fun a h => (hts.attrs a h).more hl⟩ ht)
theorem parse_sm {p : Nat} {l : List UInt8} : ∀ x ∈ (parseL p l [] []).1, ItemSm l.length x := parseF_sm l.length _ p l [] [] (Nat.le_refl _) (fun _ h => by cases h)
end Go.Proofs.Ythifddkmbjnncaa

/-
  What was read, as items.
-/
namespace Go.Proofs.Ythifddkmbjnncaa
open Go.RowKit

theorem small_of_sm {N : Nat} (hN : N ≤ 1000000000) {l : List ItemD} (hl : l.length ≤ 1000000000) (h : ∀ x ∈ l, ItemSm N x) : SmallItems l := by
  refine ⟨hl, fun k x hx => ?_⟩
  have hs := h x (List.mem_of_getElem? hx)
  refine ⟨Nat.le_trans hs.name hN, by have := hs.text; omega, by have := hs.many; omega, fun j a ha => ?_, by have := hs.level; omega⟩
  have := hs.attrs a (List.mem_of_getElem? ha)
  exact ⟨Nat.le_trans this.1 hN, by have := this.2; omega⟩
theorem parse_many {l : List UInt8} (h : (parseL 0 l [] []).2.2 = 0) : (parseL 0 l [] []).1.length ≤ 1000 := by
  have hc := parse_check l.length l 0 [] [] (Nat.le_refl _) read_nil h
  exact (checkL_ok (by rw [hc])).many
/-- where items of the call's own lie -/
theorem items_at {w : World} {B : Nat} {A : Option Addr} {c : Nat} {S : List Slot} (h : ItemsOwn w B A c S) (ha : ∀ s ∈ S, AttrsOwn w B s.2.1 s.2.2 s.1.attrs) : ItemsAt w w.heap.size A (S.map (·.1)) :=
  ItemsOwn.at h fun s hs => ⟨AttrsOwn.at (ha s hs), AttrsOwn.cap (ha s hs)⟩
end Go.Proofs.Ythifddkmbjnncaa

/-
  The plain law: each printed token is read as what was printed. No program in sight.
-/
namespace Go.Proofs.Ythifddkmbjnncaa

theorem takeWhile_all {α : Type} (p : α → Bool) : ∀ (a r : List α), (∀ x ∈ a, p x = true) → (∀ x t, r = x :: t → p x = false) → (a ++ r).takeWhile p = a
  | [], r, _, hr => by
    cases r with
    | nil => rfl
    | cons x t => rw [List.nil_append, List.takeWhile_cons, hr x t rfl]; rfl
  | x :: a, r, ha, hr => by
    rw [List.cons_append, List.takeWhile_cons, ha x (by simp), if_pos rfl, takeWhile_all p a r (fun y hy => ha y (by simp [hy])) hr]
theorem word_name {n r : List UInt8} (hn : nameL n = true) (hr : ∀ x t, r = x :: t → nb x = false) : wordL (n ++ r) = n :=
  takeWhile_all nb n r (List.all_eq_true.1 (name_bytes hn).2) hr
theorem skip_none {r : List UInt8} (hr : ∀ x t, r = x :: t → blankB x = false) : skipL r = 0 := by
  cases r with
  | nil => rfl
  | cons x t => unfold skipL; rw [List.takeWhile_cons, hr x t rfl]; rfl
theorem pre_same (a r : List UInt8) : pre a (a ++ r) = true := by
  unfold pre; simp

/-- a text, ahead of a tag or of nothing -/
theorem textT_back {t o R : List UInt8} (h : escL false t = some o) (hR : ∀ x s, R = x :: s → x = 60) : textT (o ++ R) = if 1500 < t.length then .bad 0 34 else .ok ⟨4, [], t, []⟩ o.length := by
  have e : (o ++ R).takeWhile (· != 60) = o := takeWhile_all _ o R (fun x hx => by simpa using esc_text h x hx) (fun x s hx => by rw [hR x s hx]; rfl)
  unfold textT
  simp only
  rw [e, undo_esc false t o h]
  simp
/-- an end -/
theorem endT_back {n R : List UInt8} (h : nameL n = true) : endT (n ++ 62 :: R) = .ok ⟨2, n, [], []⟩ (n.length + 1) := by
  unfold endT
  simp only
  rw [word_name h (fun x t e => by injection e with e _; subst e; rfl), h, List.drop_left, skip_none (fun x t e => by injection e with e _; subst e; rfl), Nat.add_zero, List.drop_left]
  rw [if_neg (by decide), if_pos (by exact pre_same [62] R)]
/-- an attribute, behind its blank -/
theorem attrL_back {a : AttrD} {bs : List AttrD} {o R : List UInt8} (hn : nameL a.name = true) (ho : escL true a.value = some o) (hl : a.value.length ≤ 1500) (hb : bs.length < 20) (hd : ∀ b ∈ bs, b.name ≠ a.name) :
    attrL (a.name ++ [61, 34] ++ o ++ [34] ++ R) bs = .ok a (a.name.length + 2 + o.length + 1) := by
  have e : a.name ++ [61, 34] ++ o ++ [34] ++ R = a.name ++ (61 :: 34 :: (o ++ 34 :: R)) := by simp
  rw [e]
  unfold attrL
  simp only
  rw [word_name hn (fun x t e => by injection e with e _; subst e; rfl), hn, if_neg (by decide), if_neg (by omega)]
  have h1 : bs.any (fun b => decide (b.name = a.name)) = false := by
    rw [List.any_eq_false]
    intro b hb'; simpa using hd b hb'
  have h2 : (a.name ++ 61 :: 34 :: (o ++ 34 :: R)).drop a.name.length = 61 :: 34 :: (o ++ 34 :: R) := List.drop_left
  have h3 : (a.name ++ 61 :: 34 :: (o ++ 34 :: R)).drop (a.name.length + 1) = 34 :: (o ++ 34 :: R) := by rw [← List.drop_drop, h2]; rfl
  have h4 : (a.name ++ 61 :: 34 :: (o ++ 34 :: R)).drop (a.name.length + 2) = o ++ 34 :: R := by rw [← List.drop_drop, h2]; rfl
  rw [h1, if_neg (by decide), h2, h3, h4, show pre [61] (61 :: 34 :: (o ++ 34 :: R)) = true from pre_same [61] _, show pre [34] (34 :: (o ++ 34 :: R)) = true from pre_same [34] _, if_neg (by decide), if_neg (by decide)]
  unfold valueT
  have e2 : (o ++ 34 :: R).takeWhile (· != 34) = o := takeWhile_all _ o _ (fun x hx => by simpa using esc_value ho x hx) (fun x s hx => by injection hx with hx _; subst hx; rfl)
  simp only
  rw [e2, undo_esc true a.value o ho, if_neg (by simp), if_neg (by simp), if_neg (by simp; omega)]
end Go.Proofs.Ythifddkmbjnncaa

/-
  The plain laws of documents that were read: wrapped in an element; where each item stands. No program in sight.
-/
namespace Go.Proofs.Ythifddkmbjnncaa

/-! ## A document in an element -/
def bump (x : ItemD) : ItemD := { x with level := x.level + 1 }
def wItem : ItemD := ⟨0, 1, [119], [], []⟩
def wEnd : List UInt8 := [60, 47, 119, 62]

theorem oneT_w : oneT [60, 119, 62] = .ok ⟨1, [119], [], []⟩ 3 := by decide +kernel
theorem oneT_wend : oneT wEnd = .ok ⟨2, [119], [], []⟩ 4 := by decide +kernel

theorem oneT_end {l : List UInt8} {t : TokD} {n : Nat} (hl : l ≠ []) (h : oneT l = .ok t n) : oneT (l ++ wEnd) = .ok t n := by
  by_cases hk : t.kind = 4
  · rcases oneT_fine h with ⟨_, _, _, h60, _⟩ | ⟨hk', _⟩ | ⟨hk', _⟩
    · cases l with
      | nil => exact absurd rfl hl
      | cons a r =>
        have ha : a ≠ 60 := by
          intro e; subst e; simp [pre] at h60
        have p1 : ∀ x, pre [60, 47] (a :: x) = false := fun x => by
          cases x <;> simp [pre, ha]
        have p2 : ∀ x, pre [60] (a :: x) = false := fun x => by simp [pre, ha]
        unfold oneT at h ⊢
        rw [List.cons_append]
        simp only [p1, p2, Bool.false_eq_true, if_false] at h ⊢
        rw [← h]
        unfold textT
        rw [← List.cons_append, takeWhile_stop _ _ _ (fun x t e => by unfold wEnd at e; injection e with e _; subst e; rfl)]
    · omega
    · omega
  · exact oneT_more wEnd h hk

theorem take_wrap {items : List ItemD} {o : List (List UInt8)} {t : TokD} {q : List ItemD × List (List UInt8)} (h : takeT items o t = .inr q) :
    takeT (wItem :: items.map bump) ([119] :: o) t = .inr (wItem :: q.1.map bump, [119] :: q.2) ∨
    (takeT (wItem :: items.map bump) ([119] :: o) t = .inl 42 ∨ takeT (wItem :: items.map bump) ([119] :: o) t = .inl 43) ∧ ((∃ x ∈ q.1, 39 ≤ x.level) ∨ 1000 ≤ q.1.length) := by
  unfold takeT at h
  split at h
  · rename_i hk
    split at h
    · rename_i hl
      injection h with h
      subst h
      left
      cases o with
      | nil => simp at hl
      | cons a o =>
        unfold takeT
        rw [if_pos hk, if_pos (by rw [List.getLast?_cons_cons]; exact hl), List.dropLast_cons_cons]
    · cases h
  rename_i hk
  split at h
  · cases h
  rename_i he
  injection h with h
  subst h
  have hlev : (itemOf o.length t).level = o.length := by unfold itemOf; split <;> rfl
  have hb : bump (itemOf o.length t) = itemOf ([119] :: o).length t := by
    unfold itemOf bump
    split <;> simp
  have ha : addE (wItem :: items.map bump) ([119] :: o) t.kind = if 39 ≤ o.length then 42 else if 999 ≤ items.length then 43 else 0 := by
    unfold addE
    rw [if_neg (by intro h; exact absurd h.1 (by simp))]
    simp only [List.length_cons, List.length_map]
    by_cases h1 : 39 ≤ o.length
    · rw [if_pos (by omega), if_pos h1]
    · rw [if_neg (by omega), if_neg h1]
      by_cases h2 : 999 ≤ items.length
      · rw [if_pos (by omega), if_pos h2]
      · rw [if_neg (by omega), if_neg h2]
  unfold takeT
  rw [if_neg hk, ha]
  by_cases h1 : 39 ≤ o.length
  · right
    rw [if_pos h1, if_pos (by decide)]
    exact ⟨.inl rfl, .inl ⟨_, List.mem_append_right _ (List.mem_singleton.2 rfl), by rw [hlev]; omega⟩⟩
  · rw [if_neg h1]
    by_cases h2 : 999 ≤ items.length
    · right
      rw [if_pos h2, if_pos (by decide)]
      exact ⟨.inr rfl, .inr (by simp; omega)⟩
    · left
      rw [if_neg h2, if_neg (by decide)]
      rw [← hb]
      simp only [List.map_append, List.map_cons, List.map_nil, List.cons_append, Sum.inr.injEq, Prod.mk.injEq, true_and]
      split <;> simp

theorem parse_prefix : ∀ (k : Nat) (l : List UInt8) (at_ : Nat) (items : List ItemD) (o : List (List UInt8)), l.length ≤ k → (parseL at_ l items o).2.2 = 0 → items <+: (parseL at_ l items o).1 ∧ (parseL at_ l items o).2.1 = 0
  | k, l, at_, items, o, hk, h => by
    by_cases hl : l = []
    · subst hl
      rw [parseL_nil] at h ⊢
      unfold endP at h ⊢
      split at h
      · cases h
      rename_i hne
      rw [if_neg hne]
      split at h
      · cases h
      rename_i ho
      rw [if_neg ho]
      exact ⟨List.prefix_refl _, rfl⟩
    · cases ho : oneT l with
      | bad j e =>
        exfalso
        rw [parseL_bad at_ l items o hl j e ho] at h
        have := oneT_within l hl
        rw [ho] at this
        exact this.2 h
      | ok t n =>
        have hw := oneT_within l hl
        rw [ho] at hw
        obtain ⟨hw1, hw2⟩ := hw
        cases ht : takeT items o t with
        | inl e =>
          exfalso
          rw [parseL_no at_ l items o hl t n ho e ht] at h
          have he : e = 0 := h
          subst he
          unfold takeT at ht
          split at ht
          · split at ht
            · cases ht
            · injection ht with ht; omega
          · split at ht
            · rename_i hne; injection ht with ht; exact hne ht
            · cases ht
        | inr q =>
          rw [parseL_step at_ l items o hl t n ho q ht] at h ⊢
          match k, hk with
          | 0, hk => exact absurd (List.eq_nil_of_length_eq_zero (by omega)) hl
          | k + 1, hk =>
            obtain ⟨h1, h2⟩ := parse_prefix k (l.drop n) (at_ + n) q.1 q.2 (by rw [List.length_drop]; omega) h
            refine ⟨List.IsPrefix.trans ?_ h1, h2⟩
            unfold takeT at ht
            split at ht
            · split at ht
              · injection ht with ht; subst ht; exact List.prefix_refl _
              · cases ht
            · split at ht
              · cases ht
              · injection ht with ht; subst ht; exact List.prefix_append _ _

theorem parse_wrap : ∀ (k : Nat) (l : List UInt8) (at_ at' : Nat) (items : List ItemD) (o : List (List UInt8)), l.length ≤ k → (parseL at_ l items o).2.2 = 0 →
    parseL at' (l ++ wEnd) (wItem :: items.map bump) ([119] :: o) = (wItem :: (parseL at_ l items o).1.map bump, 0, 0) ∨
    ((parseL at' (l ++ wEnd) (wItem :: items.map bump) ([119] :: o)).2.2 = 42 ∨ (parseL at' (l ++ wEnd) (wItem :: items.map bump) ([119] :: o)).2.2 = 43) ∧ ((∃ x ∈ (parseL at_ l items o).1, 39 ≤ x.level) ∨ 1000 ≤ (parseL at_ l items o).1.length)
  | k, l, at_, at', items, o, hk, h => by
    by_cases hl : l = []
    · subst hl
      left
      rw [parseL_nil] at h ⊢
      unfold endP at h ⊢
      split at h
      · cases h
      rename_i hne
      rw [if_neg hne]
      split at h
      · cases h
      rename_i ho
      rw [if_neg ho]
      have ho : o = [] := by simpa using ho
      subst ho
      rw [List.nil_append, parseL_step at' wEnd _ _ (by decide) _ _ oneT_wend (wItem :: items.map bump, []) (by unfold takeT; rw [if_pos rfl, if_pos (by decide)]; rfl)]
      rw [show wEnd.drop 4 = [] from rfl, parseL_nil]
      unfold endP
      rw [if_neg (by simp), if_neg (by simp)]
    · have hla : l ++ wEnd ≠ [] := by simp [hl]
      cases ho : oneT l with
      | bad j e =>
        exfalso
        rw [parseL_bad at_ l items o hl j e ho] at h
        have := oneT_within l hl
        rw [ho] at this
        exact this.2 h
      | ok t n =>
        have hw := oneT_within l hl
        rw [ho] at hw
        obtain ⟨hw1, hw2⟩ := hw
        have ho' := oneT_end hl ho
        cases ht : takeT items o t with
        | inl e =>
          exfalso
          rw [parseL_no at_ l items o hl t n ho e ht] at h
          have he : e = 0 := h
          subst he
          unfold takeT at ht
          split at ht
          · split at ht
            · cases ht
            · injection ht with ht; omega
          · split at ht
            · rename_i hne; injection ht with ht; exact hne ht
            · cases ht
        | inr q =>
          rw [parseL_step at_ l items o hl t n ho q ht] at h ⊢
          match k, hk with
          | 0, hk => exact absurd (List.eq_nil_of_length_eq_zero (by omega)) hl
          | k + 1, hk =>
            rcases take_wrap ht with hq | ⟨he, hd⟩
            · rw [parseL_step at' _ _ _ hla t n ho' _ hq, drop_more wEnd hw2]
              exact parse_wrap k (l.drop n) (at_ + n) (at' + n) q.1 q.2 (by rw [List.length_drop]; omega) h
            · right
              obtain ⟨hpre, _⟩ := parse_prefix k (l.drop n) (at_ + n) q.1 q.2 (by rw [List.length_drop]; omega) h
              refine ⟨?_, ?_⟩
              · rcases he with he | he
                · left; rw [parseL_no at' _ _ _ hla t n ho' _ he]
                · right; rw [parseL_no at' _ _ _ hla t n ho' _ he]
              · rcases hd with ⟨x, hx, hx39⟩ | hd
                · exact .inl ⟨x, hpre.subset hx, hx39⟩
                · exact .inr (Nat.le_trans hd hpre.length_le)

def wrapT (l : List UInt8) : List UInt8 := [60, 119, 62] ++ l ++ wEnd
theorem parse_wraps {l : List UInt8} (h : (parseL 0 l [] []).2.2 = 0) :
    (parseL 0 (wrapT l) [] [] = (wItem :: (parseL 0 l [] []).1.map bump, 0, 0) ∧ (∀ x ∈ (parseL 0 l [] []).1, x.level + 1 < 40) ∧ (parseL 0 l [] []).1.length + 1 ≤ 1000) ∨
    ((parseL 0 (wrapT l) [] []).2.2 = 42 ∨ (parseL 0 (wrapT l) [] []).2.2 = 43) ∧ ((∃ x ∈ (parseL 0 l [] []).1, 39 ≤ x.level) ∨ 1000 ≤ (parseL 0 l [] []).1.length) := by
  have h1 : parseL 0 (wrapT l) [] [] = parseL 3 (l ++ wEnd) [wItem] [[119]] := by
    have ho : oneT (wrapT l) = .ok ⟨1, [119], [], []⟩ 3 := by
      unfold wrapT; rw [List.append_assoc]; exact oneT_more _ oneT_w (by decide)
    rw [parseL_step 0 (wrapT l) [] [] (by unfold wrapT; simp) _ _ ho ([wItem], [[119]]) rfl]
    rfl
  have hw := parse_wrap l.length l 0 3 [] [] (Nat.le_refl _) h
  rw [List.map_nil, ← h1] at hw
  rcases hw with hw | hw
  · left
    have hc := parse_check (wrapT l).length (wrapT l) 0 [] [] (Nat.le_refl _) read_nil (by rw [hw])
    rw [hw] at hc
    have hd := checkL_ok (by rw [hc])
    refine ⟨hw, fun x hx => ?_, by have := hd.many; simpa using this⟩
    obtain ⟨j, hj⟩ := List.mem_iff_getElem?.1 hx
    have hb : (wItem :: (parseL 0 l [] []).1.map bump)[j + 1]? = some (bump x) := by simp [hj]
    have h0 := (oneE_zero (hd.one (j + 1) _ hb)).1
    obtain ⟨p, hp⟩ : ∃ p, prevOf (wItem :: (parseL 0 l [] []).1.map bump) (j + 1) = some p := by
      have hlt := (List.getElem?_eq_some_iff.1 hb).1
      exact ⟨_, prevOf_succ (List.getElem?_eq_getElem (by omega))⟩
    rw [hp] at h0
    unfold placeE at h0
    simp only at h0
    split at h0
    · omega
    split at h0
    · omega
    · rename_i h40
      simp only [bump] at h40
      omega
  · exact .inr hw

/-! ## Where each item stands -/
theorem endN_in {l : List ItemD} {k n : Nat} {x y : ItemD} (hx : l[k]? = some x) (hk : k < n) (hn : n < endN l k) (hy : l[n]? = some y) : x.level < y.level := by
  rw [endN_eq hx] at hn
  refine kids_mem x.level (l.drop (k + 1)) y ?_
  rw [kids_take]
  refine List.mem_iff_getElem?.2 ⟨n - (k + 1), ?_⟩
  rw [List.getElem?_take, if_pos (by omega), List.getElem?_drop]
  rw [show k + 1 + (n - (k + 1)) = n by omega]; exact hy
theorem endN_out {l : List ItemD} {k : Nat} {x y : ItemD} (hx : l[k]? = some x) (hy : l[endN l k]? = some y) : y.level ≤ x.level := by
  rw [endN_eq hx] at hy
  have hd := past_drop x.level (l.drop (k + 1))
  rw [List.drop_drop] at hd
  have hh := drop_cons hy
  rw [hh] at hd
  exact past_head x.level _ y _ hd

/-- the innermost item that stands ahead of the place n and is less deep than c; -1: none -/
def parN (l : List ItemD) (c : Int) : Nat → Int
  | 0 => -1
  | n + 1 => match l[n]? with
    | some x => if x.level < c then n else parN l c n
    | none => parN l c n
theorem parN_spec (l : List ItemD) (c : Int) : ∀ k, k ≤ l.length → (parN l c k = -1 ∧ ∀ n x, n < k → l[n]? = some x → c ≤ x.level) ∨ (∃ p x, parN l c k = (p : Nat) ∧ p < k ∧ l[p]? = some x ∧ x.level < c ∧ ∀ n y, p < n → n < k → l[n]? = some y → c ≤ y.level)
  | 0, _ => .inl ⟨rfl, fun n x h _ => by omega⟩
  | k + 1, hk => by
    have hx : l[k]? = some l[k] := List.getElem?_eq_getElem _
    by_cases hc : l[k].level < c
    · right
      refine ⟨k, l[k], ?_, by omega, hx, hc, fun n y h1 h2 _ => by omega⟩
      rw [parN, hx]; simp only; rw [if_pos hc]
    · have e : parN l c (k + 1) = parN l c k := by rw [parN, hx]; simp only; rw [if_neg hc]
      rw [e]
      rcases parN_spec l c k (by omega) with ⟨h1, h2⟩ | ⟨p, x, h1, h2, h3, h4, h5⟩
      · left
        refine ⟨h1, fun n x hn hx' => ?_⟩
        by_cases hnk : n = k
        · subst hnk; rw [hx] at hx'; injection hx' with hx'; subst hx'; omega
        · exact h2 n x (by omega) hx'
      · right
        refine ⟨p, x, h1, by omega, h3, h4, fun n y hn1 hn2 hy => ?_⟩
        by_cases hnk : n = k
        · subst hnk; rw [hx] at hy; injection hy with hy; subst hy; omega
        · exact h5 n y hn1 (by omega) hy

theorem Doc.kind {l : List ItemD} (h : Doc l) {k : Nat} {x : ItemD} (hx : l[k]? = some x) : x.kind = 1 ∨ x.kind = 2 := by
  have h0 := (oneE_zero (h.one k x hx)).2
  unfold partsE at h0
  split at h0
  · rename_i h; exact .inr h.1
  split at h0
  · omega
  · rename_i h1
    left
    by_cases h2 : x.kind = 1
    · exact h2
    · exact absurd (.inl h2) h1
theorem Doc.shape0 {l : List ItemD} (h : Doc l) : endN l 0 = l.length := by
  obtain ⟨x, r, rfl, hx, _⟩ := h.first
  have hx0 : (x :: r)[0]? = some x := rfl
  have hle := endN_le hx0
  rcases Nat.lt_or_ge (endN (x :: r) 0) (x :: r).length with hlt | hge
  · have hy : (x :: r)[endN (x :: r) 0]? = some (x :: r)[endN (x :: r) 0] := List.getElem?_eq_getElem hlt
    have h1 := endN_out hx0 hy
    obtain ⟨j, hj⟩ : ∃ j, endN (x :: r) 0 = j + 1 := ⟨endN (x :: r) 0 - 1, by omega⟩
    have hm : (x :: r)[endN (x :: r) 0] ∈ r := by
      have : (x :: r)[endN (x :: r) 0]? = r[j]? := by rw [hj]; simp
      rw [this] at hy
      exact List.mem_of_getElem? hy
    have := h.below rfl _ hm
    omega
  · omega
theorem Doc.shape {l : List ItemD} (h : Doc l) {k : Nat} {x : ItemD} (hk : 0 < k) (hx : l[k]? = some x) :
    ∃ p y, parN l x.level k = (p : Nat) ∧ p < k ∧ l[p]? = some y ∧ y.kind = 1 ∧ y.level = x.level - 1 ∧ endN l k ≤ endN l p := by
  have hkl := (List.getElem?_eq_some_iff.1 hx).1
  obtain ⟨k', rfl⟩ : ∃ k', k = k' + 1 := ⟨k - 1, by omega⟩
  have hxl : 1 ≤ x.level := (h.step (List.getElem?_eq_getElem (by omega)) hx).1
  obtain ⟨x0, r0, e0, hx0, _⟩ := h.first
  have h00 : l[0]? = some x0 := by rw [e0]; rfl
  rcases parN_spec l x.level (k' + 1) (by omega) with ⟨_, h2⟩ | ⟨p, y, h1, h2, h3, h4, h5⟩
  · exfalso
    have := h2 0 x0 (by omega) h00
    omega
  · have hnext : ∃ z, l[p + 1]? = some z ∧ x.level ≤ z.level := by
      by_cases hp : p + 1 = k' + 1
      · rw [hp]; exact ⟨x, hx, Int.le_refl _⟩
      · have hz : l[p + 1]? = some (l[p + 1]'(by omega)) := List.getElem?_eq_getElem _
        exact ⟨_, hz, h5 (p + 1) _ (by omega) (by omega) hz⟩
    obtain ⟨z, hz, hzl⟩ := hnext
    have hcap := (h.step h3 hz).2
    unfold Go.Proofs.Ythifddkmbjnncaa.cap at hcap
    have hk1 : y.kind = 1 := by
      rcases h.kind h3 with h | h
      · exact h
      · rw [if_pos h] at hcap; omega
    rw [if_neg (by omega)] at hcap
    refine ⟨p, y, h1, h2, h3, hk1, by omega, ?_⟩
    have hek := endN_le hx
    have hep := endN_le h3
    rcases Nat.lt_or_ge (endN l p) (endN l (k' + 1)) with hlt | hge
    · exfalso
      obtain ⟨v, hm⟩ : ∃ v, l[endN l p]? = some v := ⟨l[endN l p]'(by omega), List.getElem?_eq_getElem _⟩
      have hout := endN_out h3 hm
      by_cases hmk : endN l p ≤ k'
      · have := h5 (endN l p) _ (by omega) (by omega) hm; omega
      · by_cases hmk1 : endN l p = k' + 1
        · rw [hmk1, hx] at hm
          injection hm with hm
          subst hm
          omega
        · have := endN_in hx (by omega) hlt hm
          omega
    · exact hge
end Go.Proofs.Ythifddkmbjnncaa

/-
  The plain law: what is printed of a document is read as that. No program in sight.
-/
namespace Go.Proofs.Ythifddkmbjnncaa

theorem oneT_text {t o R : List UInt8} (h : escL false t = some o) (ht : t ≠ []) (hR : ∀ x s, R = x :: s → x = 60) : oneT (o ++ R) = if 1500 < t.length then .bad 0 34 else .ok ⟨4, [], t, []⟩ o.length := by
  obtain ⟨c, s, e, hc⟩ := esc_ne h ht
  have e1 : pre [60] (o ++ R) = false := by subst e; simp [pre, hc]
  have e0 : pre [60, 47] (o ++ R) = false := by
    cases hp : pre [60, 47] (o ++ R) with
    | false => rfl
    | true => rw [pre_first hp] at e1; cases e1
  unfold oneT
  rw [e0, e1, if_neg (by decide), if_neg (by decide), textT_back h hR]
theorem oneT_close {n R : List UInt8} (h : nameL n = true) : oneT (closeT n ++ R) = .ok ⟨2, n, [], []⟩ (closeT n).length := by
  have e : closeT n ++ R = 60 :: 47 :: (n ++ 62 :: R) := by simp [closeT]
  have e2 : (closeT n).length = 2 + (n.length + 1) := by simp [closeT]; omega
  rw [e, e2]
  unfold oneT
  rw [if_pos (show pre [60, 47] (60 :: 47 :: (n ++ 62 :: R)) = true from pre_same [60, 47] (n ++ 62 :: R))]
  show (endT (n ++ 62 :: R)).past 2 = _
  rw [endT_back h]; rfl

structure AttrGood (a : AttrD) : Prop where
  name : nameL a.name = true
  value : ∃ o, escL true a.value = some o
  short : a.value.length ≤ 1500
theorem Rise.apart {l : List AttrD} (h : Rise l) : Apart l := h.imp less_ne
theorem sortA_self {l : List AttrD} (h : Rise l) : sortA l = l := rise_unique (sortA_perm l) h ((sortA_rise h.apart).imp less_asymm)

theorem attrs_back {e R : List UInt8} {k : Int} (he : (e = [62] ∧ k = 1) ∨ (e = [47, 62] ∧ k = 3)) : ∀ (zs bs : List AttrD), (∀ a ∈ zs, AttrGood a) → Apart (bs ++ zs) → (bs ++ zs).length ≤ 20 →
    attrsL (zs.flatMap attrT ++ (e ++ R)) bs = .ok (k, bs ++ zs) ((zs.flatMap attrT).length + e.length)
  | [], bs, _, _, _ => by
    rw [List.flatMap_nil, List.nil_append, List.append_nil]
    rcases he with ⟨rfl, rfl⟩ | ⟨rfl, rfl⟩
    · rw [attrsL_one _ _ 0 (skip_none (fun x t h => by injection h with h _; subst h; rfl)).symm (pre_same [62] R)]; rfl
    · rw [attrsL_two _ _ 0 (skip_none (fun x t h => by injection h with h _; subst h; rfl)).symm (by simp [pre]) (pre_same [47, 62] R)]; rfl
  | a :: zs, bs, hg, ha, hl => by
    obtain ⟨hn, ⟨o, ho⟩, hv⟩ := hg a (by simp)
    have hov : escV a.value = o := by unfold escV; rw [ho]; rfl
    obtain ⟨T, hT⟩ : ∃ T, zs.flatMap attrT ++ (e ++ R) = T := ⟨_, rfl⟩
    obtain ⟨X, hX⟩ : ∃ X, a.name ++ [61, 34] ++ o ++ [34] ++ T = X := ⟨_, rfl⟩
    have e1 : (a :: zs).flatMap attrT ++ (e ++ R) = 32 :: X := by
      rw [← hX, ← hT]; simp [attrT, hov]
    obtain ⟨c, s, hcs, hc⟩ : ∃ c s, X = c :: s ∧ nb c = true := by
      obtain ⟨h1, h2⟩ := name_bytes hn
      cases hna : a.name with
      | nil => exact absurd hna h1
      | cons c s =>
        rw [hna] at h2; simp at h2
        exact ⟨c, _, by rw [← hX, hna]; rfl, h2.1⟩
    have hbl : blankB c = false := by
      cases hb : blankB c with
      | false => rfl
      | true =>
        simp only [blankB, Bool.or_eq_true, beq_iff_eq] at hb
        rcases hb with (rfl | rfl) | rfl <;> exact absurd hc (by decide)
    have hsk : 1 = skipL (32 :: X) := by
      rw [hcs]
      unfold skipL
      rw [List.takeWhile_cons, if_pos (by decide), List.takeWhile_cons, hbl]; rfl
    have hp1 : ∀ b r, nb b = false → pre (b :: r) X = false := fun b r hb => by
      cases hp : pre (b :: r) X with
      | false => rfl
      | true =>
        exfalso
        rw [hcs] at hp
        simp only [pre, List.length_cons, List.take_succ_cons, beq_iff_eq, List.cons.injEq] at hp
        rw [hp.1, hb] at hc; cases hc
    have hat := attrL_back (bs := bs) (R := T) hn ho hv (by simp at hl; omega) (fun b hb => (List.pairwise_append.1 ha).2.2 b hb a (by simp))
    rw [hX] at hat
    obtain ⟨m, hm⟩ : ∃ m, a.name.length + 2 + o.length + 1 = m := ⟨_, rfl⟩
    rw [hm] at hat
    have hd : (32 :: X).drop (1 + m) = T := by
      rw [Nat.add_comm, List.drop_succ_cons, ← hX]
      exact List.drop_left' (by rw [← hm]; simp; omega)
    rw [e1, attrsL_step (32 :: X) bs 1 hsk (hp1 62 [] (by decide)) (hp1 47 [62] (by decide)) (by decide) (by rw [show (32 :: X).drop 1 = X from rfl, hcs]; simp) a m hat, hd, ← hT,
      attrs_back he zs (bs ++ [a]) (fun b hb => hg b (by simp [hb])) (by simpa using ha) (by simpa using hl)]
    have hlen : ((a :: zs).flatMap attrT).length = 1 + m + (zs.flatMap attrT).length := by
      rw [← hm]; simp [attrT, hov]; omega
    rw [hlen]
    simp [Told.past]; omega
theorem oneT_tag {x : ItemD} {e R : List UInt8} {k : Int} (he : (e = [62] ∧ k = 1) ∨ (e = [47, 62] ∧ k = 3)) (hn : nameL x.name = true) (hr : Rise x.attrs) (hm : x.attrs.length ≤ 20) (ha : ∀ a ∈ x.attrs, AttrGood a) :
    oneT (tagL x ++ (e ++ R)) = .ok ⟨k, x.name, [], x.attrs⟩ ((tagL x).length + e.length) := by
  obtain ⟨Y, hY⟩ : ∃ Y, x.attrs.flatMap attrT ++ (e ++ R) = Y := ⟨_, rfl⟩
  have e1 : tagL x ++ (e ++ R) = 60 :: (x.name ++ Y) := by rw [← hY]; simp [tagL]
  have hY1 : ∀ c t, Y = c :: t → nb c = false := by
    intro c t h
    rw [← hY] at h
    cases hat : x.attrs with
    | nil =>
      rw [hat, List.flatMap_nil, List.nil_append] at h
      rcases he with ⟨rfl, _⟩ | ⟨rfl, _⟩ <;> (injection h with h _; subst h; rfl)
    | cons a zs =>
      rw [hat] at h
      simp only [List.flatMap_cons, attrT, List.append_assoc, List.cons_append, List.nil_append] at h
      injection h with h _; subst h; rfl
  have hb := attrs_back (R := R) he x.attrs [] ha (by simpa using hr.apart) (by simpa using hm)
  rw [hY, List.nil_append] at hb
  obtain ⟨c, s, hcs, hc⟩ : ∃ c s, x.name = c :: s ∧ nb c = true := by
    obtain ⟨h1, h2⟩ := name_bytes hn
    cases hna : x.name with
    | nil => exact absurd hna h1
    | cons c s => rw [hna] at h2; simp at h2; exact ⟨c, s, rfl, h2.1⟩
  have hp : pre [60, 47] (60 :: (x.name ++ Y)) = false := by
    rw [hcs]
    cases hp : pre [60, 47] (60 :: (c :: s ++ Y)) with
    | false => rfl
    | true =>
      exfalso
      simp only [pre, List.length_cons, List.length_nil, List.cons_append, List.take_succ_cons, List.take_zero, beq_iff_eq, List.cons.injEq] at hp
      rw [hp.2.1] at hc; revert hc; decide
  rw [e1]
  unfold oneT
  rw [if_neg (by rw [hp]; decide), if_pos (show pre [60] (60 :: (x.name ++ Y)) = true from pre_same [60] (x.name ++ Y))]
  show (beginT (x.name ++ Y)).past 1 = _
  unfold beginT
  simp only
  rw [word_name hn hY1, if_neg (by rw [hn]; decide), List.drop_left, attrsF_more _ Y [] (Y.length + 1) (by simp; omega) (by omega)]
  have hb' : attrsF (Y.length + 1) Y [] = .ok (k, x.attrs) ((x.attrs.flatMap attrT).length + e.length) := hb
  rw [hb']
  simp only [Told.past, sortA_self hr]
  congr 1
  simp [tagL]; omega

/-- an item whose parts may be, with all bounds but a text's -/
inductive ItemGood (x : ItemD) : Prop
  | text (k : x.kind = 2) (n : x.name = []) (a : x.attrs = []) (t : ∃ o, escL false x.text = some o)
  | elem (k : x.kind = 1) (t : x.text = []) (n : nameL x.name = true) (r : Rise x.attrs) (m : x.attrs.length ≤ 20) (a : ∀ y ∈ x.attrs, AttrGood y)
theorem ItemGood.ok {x : ItemD} (h : ItemGood x) : ItemOk x := by
  rcases h with ⟨k, n, a, t⟩ | ⟨k, t, n, r, m, a⟩
  · exact .text k n a t
  · exact .elem k t n (fun y hy => ⟨(a y hy).name, (a y hy).value⟩)
theorem attrNames_rise : ∀ (l : List AttrD) (last : List UInt8), attrNames last l = true → Rise l ∧ ∀ a ∈ l, Op.bytesLess last a.name = true
  | [], _, _ => ⟨List.Pairwise.nil, fun _ h => by cases h⟩
  | b :: l, last, h => by
    simp only [attrNames, Bool.and_eq_true, Bool.not_eq_true'] at h
    obtain ⟨h1, h2⟩ := attrNames_rise l b.name h.2
    have h3 : Op.bytesLess last b.name = true := by
      have h4 := h.1.2
      unfold leB at h4
      rw [Bool.or_eq_false_iff] at h4
      cases h5 : Op.bytesLess last b.name with
      | true => rfl
      | false =>
        have := less_tri h4.1 h5
        rw [this] at h4; simp at h4
    refine ⟨List.pairwise_cons.2 ⟨h2, h1⟩, fun a ha => ?_⟩
    rcases List.mem_cons.1 ha with rfl | ha
    · exact h3
    · exact less_trans h3 (h2 a ha)
theorem charsE_short {l : List UInt8} (h : charsE l = 0) : l.length ≤ 1500 := by
  unfold charsE at h
  split at h
  · omega
  · split at h
    · omega
    · omega
theorem parts_good {x : ItemD} (h : partsE x = 0) : ItemGood x := by
  rcases parts_ok h with ⟨k, n, a, t⟩ | ⟨k, t, n, a⟩
  · exact .text k n a t
  · unfold partsE at h
    rw [if_neg (by omega), if_neg (by simp [k, t])] at h
    by_cases h3 : namesE x = 0
    · rw [if_pos h3] at h
      unfold namesE at h3
      by_cases h4 : (nameL x.name && attrNames [] x.attrs) = true
      · rw [if_pos h4] at h3
        simp only [Bool.and_eq_true] at h4
        refine .elem k t n (attrNames_rise _ _ h4.2).1 ?_ (fun y hy => ⟨(a y hy).name, (a y hy).value, charsE_short (valuesE_ok _ h y hy)⟩)
        split at h3
        · cases h3
        · omega
      · rw [if_neg h4] at h3; cases h3
    · rw [if_neg h3] at h; exact absurd h h3
theorem parts_short {x : ItemD} (h : partsE x = 0) : x.text.length ≤ 1500 := by
  unfold partsE at h
  split at h
  · exact charsE_short h
  · split at h
    · omega
    · rename_i h2
      have ht : x.text = [] := Decidable.of_not_not fun h => h2 (.inr h)
      rw [ht]; simp

def Short (r : List ItemD) : Prop := ∀ y ∈ r, y.text.length ≤ 1500
/-- what is read of a row's print: the row, or that a text of it is too long -/
def BackP (l : List UInt8) (at_ : Nat) (items : List ItemD) (o : List (List UInt8)) (R : List UInt8) (r : List ItemD) : Prop :=
  (Short r ∧ ∃ at', parseL at_ l items o = parseL at' R (items ++ r) o) ∨ (¬ Short r ∧ ∃ k, parseL at_ l items o = ([], k, 34))

theorem elem_back {x : ItemD} {K items : List ItemD} {o : List (List UInt8)} {R : List UInt8} (hx : ItemGood x) (hk : x.kind = 1) (hl : x.level = o.length) (hadd : addE items o 1 = 0) (at_ : Nat)
    (hK : K ≠ [] → ∀ a, BackP (pr K ++ (closeT x.name ++ R)) a (items ++ [x]) (o ++ [x.name]) (closeT x.name ++ R) K) :
    BackP (tagL x ++ ((if K = [] then [47, 62] else [62] ++ pr K ++ closeT x.name) ++ R)) at_ items o R (x :: K) := by
  rcases hx with ⟨k, _⟩ | ⟨_, ht, hn, hr, hm, ha⟩
  · omega
  have hxi : (⟨(o.length : Int), 1, x.name, [], x.attrs⟩ : ItemD) = x := item_same ⟨hl.symm, hk.symm, rfl, ht.symm, rfl⟩
  have hadd3 : addE items o 3 = 0 := by
    have e : addE items o 3 = addE items o 1 := by unfold addE; simp
    rw [e]; exact hadd
  have hne : tagL x ++ ((if K = [] then [47, 62] else [62] ++ pr K ++ closeT x.name) ++ R) ≠ [] := by simp [tagL]
  by_cases hk0 : K = []
  · subst hk0
    rw [if_pos rfl] at hne ⊢
    refine .inl ⟨fun y hy => by simp at hy; subst hy; rw [ht]; simp, ?_⟩
    have h1 := oneT_tag (R := R) (.inr ⟨rfl, rfl⟩) hn hr hm ha
    have h2 : takeT items o ⟨3, x.name, [], x.attrs⟩ = .inr (items ++ [x], o) := by
      unfold takeT
      simp only
      rw [if_neg (by decide), if_neg (by rw [hadd3]; simp), if_neg (by decide)]
      unfold itemOf
      simp only
      rw [if_neg (by decide)]
      simp only [hxi]
    rw [parseL_step at_ _ items o hne _ _ h1 _ h2]
    refine ⟨at_ + ((tagL x).length + ([47, 62] : List UInt8).length), ?_⟩
    simp only
    rw [← List.append_assoc, List.drop_left' (by simp)]
  · rw [if_neg hk0] at hne ⊢
    have h1 := oneT_tag (R := pr K ++ (closeT x.name ++ R)) (.inl ⟨rfl, rfl⟩) hn hr hm ha
    have e1 : tagL x ++ ([62] ++ pr K ++ closeT x.name ++ R) = tagL x ++ ([62] ++ (pr K ++ (closeT x.name ++ R))) := by simp only [List.append_assoc]
    rw [e1] at hne ⊢
    have h2 : takeT items o ⟨1, x.name, [], x.attrs⟩ = .inr (items ++ [x], o ++ [x.name]) := by
      unfold takeT
      simp only
      rw [if_neg (by decide), if_neg (by rw [hadd]; simp), if_pos trivial]
      unfold itemOf
      simp only
      rw [if_neg (by decide)]
      simp only [hxi]
    have h3 := parseL_step at_ _ items o hne _ _ h1 _ h2
    simp only at h3
    rw [show tagL x ++ ([62] ++ (pr K ++ (closeT x.name ++ R))) = tagL x ++ [62] ++ (pr K ++ (closeT x.name ++ R)) by simp, List.drop_left' (by simp)] at h3
    rw [show tagL x ++ ([62] ++ (pr K ++ (closeT x.name ++ R))) = tagL x ++ [62] ++ (pr K ++ (closeT x.name ++ R)) by simp]
    have hxs : x.text.length ≤ 1500 := by rw [ht]; simp
    rcases hK hk0 _ with ⟨s1, a1, s2⟩ | ⟨s1, k1, s2⟩
    · refine .inl ⟨fun y hy => ?_, ?_⟩
      · rcases List.mem_cons.1 hy with rfl | hy
        · exact hxs
        · exact s1 y hy
      rw [h3, s2]
      have h4 := oneT_close (R := R) hn
      have h5 : takeT (items ++ [x] ++ K) (o ++ [x.name]) ⟨2, x.name, [], []⟩ = .inr (items ++ [x] ++ K, o) := by
        unfold takeT
        simp only
        rw [if_pos trivial, if_pos (by simp), List.dropLast_concat]
      rw [parseL_step a1 (closeT x.name ++ R) _ _ (by simp [closeT]) _ _ h4 _ h5]
      refine ⟨a1 + (closeT x.name).length, ?_⟩
      simp only
      rw [List.drop_left]
      simp only [List.append_assoc, List.singleton_append]
    · exact .inr ⟨fun h => s1 (fun y hy => h y (by simp [hy])), k1, by rw [h3, s2]⟩

theorem parse_pr : ∀ (n : Nat) (r : List ItemD) (o : List (List UInt8)) (at_ : Nat) (R : List UInt8) (items : List ItemD), r.length ≤ n → o ≠ [] → Forest o.length r → (∀ y ∈ r, ItemGood y) → (∀ y ∈ r, y.level < 40) → endR R →
    items.length + r.length ≤ 1000 → BackP (pr r ++ R) at_ items o R r := by
  intro n
  induction n with
  | zero =>
    intro r o at_ R items hn _ _ _ _ _ _
    have : r = [] := List.eq_nil_of_length_eq_zero (by omega)
    subst this
    exact .inl ⟨(fun _ h => by cases h), at_, by rw [pr_nil, List.append_nil]; rfl⟩
  | succ n ih =>
    intro r o at_ R items hn ho hf hg hl hR hi
    cases r with
    | nil => exact .inl ⟨(fun _ h => by cases h), at_, by rw [pr_nil, List.append_nil]; rfl⟩
    | cons x r =>
      have hxl := hf.head
      have hxd := hl x (by simp)
      simp only [List.length_cons] at hn hi
      have hadd : ∀ k : Int, addE items o k = 0 := fun k => by
        unfold addE
        rw [if_neg (by simp [ho]), if_neg (by omega), if_neg (by omega)]
      rcases hgx : hg x (by simp) with ⟨kx, nx, ax, ox, hox⟩ | ⟨kx, tx, _, _, _, _⟩
      · -- a text
        have hfr : Forest o.length r := by
          have hcp := hf.cap.2
          have : Go.Proofs.Ythifddkmbjnncaa.cap x = o.length := by unfold Go.Proofs.Ythifddkmbjnncaa.cap; rw [if_pos kx]; exact hxl
          rw [this] at hcp
          exact ⟨fun z hz => hf.low z (by simp [hz]), hcp, fun z hz => hf.ok z (by simp [hz]), hf.nf.tail⟩
        have hstop : ∀ c t, pr r ++ R = c :: t → c = 60 := by
          intro c t e
          cases hr : r with
          | nil =>
            rw [hr, pr_nil] at e
            rcases hR with h | ⟨u, h⟩
            · rw [h] at e; cases e
            · rw [h] at e; injection e with e _; exact e.symm
          | cons z s =>
            rw [hr] at e hfr
            rcases pr_starts hfr R with ⟨kz, _⟩ | ⟨_, c', t', e', _⟩
            · exfalso
              have hnf := hf.nf
              rw [hr] at hnf
              exact hnf.2.2.1 ⟨kz, kx, by rw [hf.head, hfr.head]⟩
            · rw [e'] at e; injection e with e _; exact e.symm
        have hne : x.text ≠ [] := fun e => hf.nf.1 ⟨kx, e⟩
        have e : escT x.text = ox := by unfold escT; rw [hox]; rfl
        have h1 := oneT_text hox hne hstop
        have hxi : (⟨(o.length : Int), 2, [], x.text, []⟩ : ItemD) = x := item_same ⟨hxl.symm, kx.symm, nx.symm, rfl, ax.symm⟩
        rw [pr_text kx hf.cap.2, e, List.append_assoc]
        have hoe : ox ++ (pr r ++ R) ≠ [] := by
          obtain ⟨c, s, e2, _⟩ := esc_ne hox hne
          rw [e2]; simp
        by_cases hlong : 1500 < x.text.length
        · rw [if_pos hlong] at h1
          exact .inr ⟨fun h => by have := h x (by simp); omega, _, parseL_bad at_ _ items o hoe _ _ h1⟩
        · rw [if_neg hlong] at h1
          have h2 : takeT items o ⟨4, [], x.text, []⟩ = .inr (items ++ [x], o) := by
            unfold takeT
            simp only
            rw [if_neg (by decide), if_neg (by rw [hadd 4]; simp), if_neg (by decide)]
            unfold itemOf
            rw [if_pos rfl]
            simp only [hxi]
          have h3 := parseL_step at_ _ items o hoe _ _ h1 _ h2
          simp only at h3
          rw [List.drop_left] at h3
          rcases ih r o (at_ + ox.length) R (items ++ [x]) (by omega) ho hfr (fun y hy => hg y (by simp [hy])) (fun y hy => hl y (by simp [hy])) hR (by simp; omega) with ⟨s1, a1, s2⟩ | ⟨s1, k1, s2⟩
          · refine .inl ⟨fun y hy => ?_, a1, by rw [h3, s2]; simp⟩
            rcases List.mem_cons.1 hy with rfl | hy
            · omega
            · exact s1 y hy
          · exact .inr ⟨fun h => s1 (fun y hy => h y (by simp [hy])), k1, by rw [h3, s2]⟩
      · -- an element
        obtain ⟨pk, pp⟩ := hf.parts (by omega)
        have kl := kidsOf_le x.level r
        have pl := pastOf_le x.level r
        have hs := kids_past x.level r
        have hlen : (kidsOf x.level r).length + (pastOf x.level r).length = r.length := by
          have := congrArg List.length hs
          rw [List.length_append] at this; exact this
        have hmk : ∀ y ∈ kidsOf x.level r, y ∈ r := fun y hy => by rw [← hs]; simp [hy]
        have hmp : ∀ y ∈ pastOf x.level r, y ∈ r := fun y hy => by rw [← hs]; simp [hy]
        obtain ⟨K, hK⟩ : ∃ K, kidsOf x.level r = K := ⟨_, rfl⟩
        obtain ⟨P, hP⟩ : ∃ P, pastOf x.level r = P := ⟨_, rfl⟩
        rw [pr_elem (by omega), hK, hP]
        rw [hK] at pk hmk kl hs hlen
        rw [hP] at pp hmp pl hs hlen
        have e1 : tagL x ++ ((if K = [] then [47, 62] else [62] ++ pr K ++ closeT x.name) ++ pr P) ++ R = tagL x ++ ((if K = [] then [47, 62] else [62] ++ pr K ++ closeT x.name) ++ (pr P ++ R)) := by simp only [List.append_assoc]
        rw [e1]
        have hel := elem_back (x := x) (K := K) (items := items) (o := o) (R := pr P ++ R) (hg x (by simp)) kx hxl (hadd 1) at_ (fun _ a =>
          ih K (o ++ [x.name]) a _ (items ++ [x]) (by omega) (by simp) (by rw [show ((o ++ [x.name]).length : Int) = o.length + 1 by simp]; exact pk) (fun y hy => hg y (by simp [hmk y hy])) (fun y hy => hl y (by simp [hmk y hy])) (.inr ⟨_, rfl⟩) (by simp; omega))
        rcases hel with ⟨s1, a1, s2⟩ | ⟨s1, k1, s2⟩
        · rcases ih P o a1 R (items ++ x :: K) (by omega) ho pp (fun y hy => hg y (by simp [hmp y hy])) (fun y hy => hl y (by simp [hmp y hy])) hR (by simp; omega) with ⟨t1, a2, t2⟩ | ⟨t1, k2, t2⟩
          · refine .inl ⟨fun y hy => ?_, a2, by rw [s2, t2, ← hs]; simp⟩
            rcases List.mem_cons.1 hy with rfl | hy
            · exact s1 y (by simp)
            · rw [← hs] at hy
              rcases List.mem_append.1 hy with hy | hy
              · exact s1 y (by simp [hy])
              · exact t1 y hy
          · exact .inr ⟨fun h => t1 (fun y hy => h y (by simp [hmp y hy])), k2, by rw [s2, t2]⟩
        · refine .inr ⟨fun h => s1 (fun y hy => ?_), k1, s2⟩
          rcases List.mem_cons.1 hy with rfl | hy
          · exact h y (by simp)
          · exact h y (by simp [hmk y hy])

/-- a document in normal form whose parts may be is read back, unless a text is too long -/
theorem back_doc {N : List ItemD} {x : ItemD} {s : List ItemD} (hS : Shape N x s) (hn : NF N) (hg : ∀ y ∈ N, ItemGood y) (hl : ∀ y ∈ N, y.level < 40) (hm : N.length ≤ 1000) :
    (Short N ∧ parseL 0 (nodeAt N 0) [] [] = (N, 0, 0)) ∨ (¬ Short N ∧ ∃ k, parseL 0 (nodeAt N 0) [] [] = ([], k, 34)) := by
  have hF : Forest 0 N := ⟨hS.zero, hS.cap, fun y hy => (hg y hy).ok, hn⟩
  rw [← hS.pr]
  obtain ⟨e, h0, h1, hc, hz, hp⟩ := hS
  subst e
  have hk : kidsOf x.level s = s ∧ pastOf x.level s = [] := all_kids x.level s (fun y hy => by have := hp y hy; omega)
  obtain ⟨pk, _⟩ := hF.parts (by omega)
  rw [hk.1] at pk
  rw [pr_elem (by omega), hk.1, hk.2, pr_nil]
  simp only [List.length_cons] at hm
  have hel := elem_back (x := x) (K := s) (items := []) (o := []) (R := []) (hg x (by simp)) h1 (by rw [h0]; rfl) (by decide) 0 (fun _ a =>
    parse_pr s.length s [x.name] a _ [x] (Nat.le_refl _) (by simp) pk (fun y hy => hg y (by simp [hy])) (fun y hy => hl y (by simp [hy])) (.inr ⟨_, rfl⟩) (by simp; omega))
  rcases hel with ⟨s1, a1, s2⟩ | ⟨s1, k1, s2⟩
  · refine .inl ⟨s1, ?_⟩
    rw [s2, parseL_nil]
    simp [endP]
  · exact .inr ⟨s1, k1, s2⟩

/-! Made normal: its parts may be. -/
theorem normP_good : ∀ (r : List ItemD) (p : ItemD), ItemGood p → (∀ y ∈ r, ItemGood y) → ∀ y ∈ normP p r, ItemGood y
  | [], p, hp, _, y, hy => by simp [normP] at hy; subst hy; exact hp
  | x :: r, p, hp, hr, y, hy => by
    unfold normP at hy
    split at hy
    · exact normP_good r p hp (fun z hz => hr z (by simp [hz])) y hy
    · split at hy
      · rename_i h2
        refine normP_good r _ ?_ (fun z hz => hr z (by simp [hz])) y hy
        rcases hp with ⟨k, n, a, o, ho⟩ | ⟨k, _⟩
        · rcases hr x (by simp) with ⟨k2, n2, a2, o2, ho2⟩ | ⟨k2, _⟩
          · exact .text k n a ⟨_, esc_append false _ _ _ _ ho ho2⟩
          · have := h2.1; omega
        · have := h2.2.1; omega
      · rcases List.mem_cons.1 hy with rfl | hy
        · exact hp
        · exact normP_good r x (hr x (by simp)) (fun z hz => hr z (by simp [hz])) y hy
theorem back_normal {l : List ItemD} (h : Doc l) :
    (Short (normalL l) ∧ parseL 0 (nodeAt (normalL l) 0) [] [] = (normalL l, 0, 0)) ∨ (¬ Short (normalL l) ∧ ∃ k, parseL 0 (nodeAt (normalL l) 0) [] [] = ([], k, 34)) := by
  obtain ⟨x, s, hS⟩ := h.normal
  have hone : ∀ y ∈ l, ItemGood y ∧ y.level < 40 := fun y hy => by
    obtain ⟨k, hk⟩ := List.mem_iff_getElem?.1 hy
    obtain ⟨h1, h2⟩ := oneE_zero (h.one k y hk)
    exact ⟨parts_good h2, (placeE_zero h1).2⟩
  obtain ⟨x0, r, e, _, hx1⟩ := h.first
  have hlen : (normalL l).length ≤ l.length := by
    have := (normal_fold_mem (fun _ => True) l [] (0 : Nat) (fun _ h => by cases h) (fun _ _ => trivial)).2
    show (l.foldl nstep []).length ≤ _
    simpa using this
  have hm := h.many
  refine back_doc hS (normal_nf l) ?_ ?_ (by omega)
  · rw [e, normal_first hx1]
    exact normP_good r x0 (hone x0 (by rw [e]; simp)).1 (fun y hy => (hone y (by rw [e]; simp [hy])).1)
  · rw [e, normal_first hx1]
    exact normP_mem (· < 40) r x0 (hone x0 (by rw [e]; simp)).2 (fun y hy => (hone y (by rw [e]; simp [hy])).2)

/-! What was read is in normal form. -/
theorem nf_snoc : ∀ (l : List ItemD) (x : ItemD), NF l → ¬ voidB x → (∀ p, l.getLast? = some p → ¬ joinB p x) → NF (l ++ [x]) := by
  have key : ∀ (l : List ItemD) (p x : ItemD), nfP p l → ¬ voidB x → (∀ q, (p :: l).getLast? = some q → ¬ joinB q x) → nfP p (l ++ [x]) := by
    intro l
    induction l with
    | nil => intro p x _ hv hj; exact ⟨hv, hj p rfl, trivial⟩
    | cons y l ih =>
      intro p x h hv hj
      exact ⟨h.1, h.2.1, ih y x h.2.2 hv (fun q hq => hj q (by rw [List.getLast?_cons_cons]; exact hq))⟩
  intro l x h hv hj
  cases l with
  | nil => exact ⟨hv, trivial⟩
  | cons y l => exact ⟨h.1, key l y x h.2 hv hj⟩

structure ReadN (l : List UInt8) (items : List ItemD) (o : List (List UInt8)) : Prop where
  nf : NF items
  deep : ∀ p, items.getLast? = some p → p.kind = 2 → (o.length : Int) ≤ p.level
  stop : ∀ p, items.getLast? = some p → p.kind = 2 → p.level = o.length → ∀ t n, l ≠ [] → oneT l = .ok t n → t.kind ≠ 4
theorem readN_step {l : List UInt8} {t : TokD} {n : Nat} (hl : l ≠ []) (ho : oneT l = .ok t n) {items : List ItemD} {o : List (List UInt8)} (h : ReadN l items o) {q : List ItemD × List (List UInt8)} (ht : takeT items o t = .inr q) : ReadN (l.drop n) q.1 q.2 := by
  unfold takeT at ht
  split at ht
  · split at ht
    · rename_i hk2 hlast
      injection ht with ht
      subst ht
      have hpos : 0 < o.length := by
        rcases o with _ | ⟨a, o⟩
        · simp at hlast
        · simp
      refine ⟨h.nf, fun p hp hk => ?_, fun p hp hk hlev => ?_⟩
      · have := h.deep p hp hk
        simp only [List.length_dropLast]; omega
      · have := h.deep p hp hk
        simp only [List.length_dropLast] at hlev
        omega
    · cases ht
  rename_i hk2
  split at ht
  · cases ht
  injection ht with ht
  subst ht
  have hlev : (itemOf o.length t).level = o.length := by unfold itemOf; split <;> rfl
  have hkind : (itemOf o.length t).kind = if t.kind = 4 then 2 else 1 := by unfold itemOf; split <;> rfl
  refine ⟨nf_snoc _ _ h.nf (fun hv => ?_) (fun p hp hj => ?_), fun p hp hk => ?_, fun p hp hk hlev' u m hne hu => ?_⟩
  · obtain ⟨hv1, hv2⟩ := hv
    rw [hkind] at hv1
    split at hv1
    · rename_i h4
      have : (itemOf o.length t).text = t.text := by unfold itemOf; rw [if_pos h4]
      rw [this] at hv2
      exact text_ne hl ho h4 hv2
    · cases hv1
  · obtain ⟨j1, j2, j3⟩ := hj
    rw [hkind] at j1
    split at j1
    · rename_i h4
      exact h.stop p hp j2 (by rw [j3, hlev]) t n hl ho h4
    · cases j1
  · simp only [List.getLast?_append, List.getLast?_singleton, Option.some_or, Option.some.injEq] at hp
    subst hp
    rw [hkind] at hk
    split at hk
    · rename_i h4
      simp only
      rw [if_neg (by omega), hlev]; exact Int.le_refl _
    · cases hk
  · simp only [List.getLast?_append, List.getLast?_singleton, Option.some_or, Option.some.injEq] at hp
    subst hp
    rw [hkind] at hk
    split at hk
    · rename_i h4
      exact behind_text ho h4 hu hne
    · cases hk
theorem parse_nf : ∀ (k : Nat) (l : List UInt8) (at_ : Nat) (items : List ItemD) (o : List (List UInt8)), l.length ≤ k → ReadN l items o → (parseL at_ l items o).2.2 = 0 → NF (parseL at_ l items o).1
  | k, l, at_, items, o, hk, hr, h => by
    by_cases hl : l = []
    · subst hl
      rw [parseL_nil] at h ⊢
      unfold endP at h ⊢
      split at h
      · cases h
      rename_i hne
      rw [if_neg hne]
      split at h
      · cases h
      rename_i ho
      rw [if_neg ho]
      exact hr.nf
    · cases ho : oneT l with
      | bad j e => rw [parseL_bad at_ l items o hl j e ho]; trivial
      | ok t n =>
        have hw := oneT_within l hl
        rw [ho] at hw
        obtain ⟨hw1, hw2⟩ := hw
        cases ht : takeT items o t with
        | inl e => rw [parseL_no at_ l items o hl t n ho e ht]; trivial
        | inr q =>
          rw [parseL_step at_ l items o hl t n ho q ht] at h ⊢
          match k, hk with
          | 0, hk => exact absurd (List.eq_nil_of_length_eq_zero (by omega)) hl
          | k + 1, hk => exact parse_nf k (l.drop n) (at_ + n) q.1 q.2 (by rw [List.length_drop]; omega) (readN_step hl ho hr ht) h
theorem readN_nil (l : List UInt8) : ReadN l [] [] := ⟨trivial, fun _ h => by simp at h, fun _ h => by simp at h⟩

/-- what was read is printed, and read as the same again -/
theorem again {s : List UInt8} (h : (parseL 0 s [] []).2.2 = 0) :
    ∃ l, parseL 0 s [] [] = (l, (parseL 0 s [] []).2.1, 0) ∧ Doc l ∧ NF l ∧ (checkL l).2 = 0 ∧ printL l = (nodeAt l 0, 0) ∧ parseL 0 (nodeAt l 0) [] [] = (l, 0, 0) := by
  have hc := parse_check _ s 0 [] [] (Nat.le_refl _) read_nil h
  have hn := parse_nf _ s 0 [] [] (Nat.le_refl _) (readN_nil s) h
  obtain ⟨l, hl⟩ : ∃ l, (parseL 0 s [] []).1 = l := ⟨_, rfl⟩
  rw [hl] at hc hn
  have hc2 : (checkL l).2 = 0 := by rw [hc]
  have hd := checkL_ok hc2
  have hN := nf_normal l hn
  have hs : Short l := fun y hy => by
    obtain ⟨k, hk⟩ := List.mem_iff_getElem?.1 hy
    exact parts_short (oneE_zero (hd.one k y hk)).2
  refine ⟨l, by rw [← hl, ← h], hd, hn, hc2, by unfold printL; rw [if_pos hc2, hN], ?_⟩
  have hb := back_normal hd
  rw [hN] at hb
  rcases hb with ⟨_, h1⟩ | ⟨h1, _⟩
  · exact h1
  · exact absurd hs h1
end Go.Proofs.Ythifddkmbjnncaa

/-
  The law ScribeBack walked.
-/
namespace Go.Proofs.Ythifddkmbjnncaa
open Go.RowKit

def longB (l : List ItemD) : Bool := l.any fun x => decide (1500 < x.text.length)
theorem longB_true {l : List ItemD} (h : longB l = true) : ¬ Short l := by
  unfold longB at h
  obtain ⟨x, hx, h1⟩ := List.any_eq_true.1 h
  intro hs
  have := hs x hx
  have := of_decide_eq_true h1
  omega
theorem longB_false {l : List ItemD} (h : longB l = false) : Short l := by
  unfold longB at h
  intro x hx
  have := List.any_eq_false.1 h x hx
  simpa using this

set_option maxRecDepth 100000 in
set_option maxHeartbeats 2000000 in
theorem Long_any (l : List ItemD) (A : Option Addr) (c : Nat) (w : World) (hA : ItemsAt w w.heap.size A l) (hs : SmallItems l) (R : Bool) (hR : Hid (longB l = R)) :
    Calls Try.prog 36 #[.slice A l.length c] w (Ret w (.bool R)) := by
  have HA := Lib.hid hA
  have HS := Lib.hid hs
  have hl := hs.1
  have hR0 : Hid (longB (l.drop 0) = R) := hR
  clear hA hs hR
  go_enter Try.func36, Try.ntmps36
  go_wp2_with fail
  go_loopw [3] (fun i wr => ∃ (n : Nat), n ≤ l.length ∧ i = .int .i64 n ∧ Hid (longB (l.drop n) = R) ∧ Below w.heap.size w wr) (fun i _ => l.length - (intOf i).toNat)
  case atStart => exact ⟨0, Nat.zero_le _, by go_num, hR0, Below.refl _ _⟩
  case round =>
    obtain ⟨n, hnl, rfl, hin, hbel⟩ := hrel
    have j0 : (0 : Int) ≤ (n : Int) := by omega
    by_cases hlt : n < l.length
    · obtain ⟨ad, rfl, _⟩ := HA.out (by omega)
      obtain ⟨y, hy⟩ : ∃ y, Hid (l[n]? = some y) := ⟨l[n], List.getElem?_eq_getElem _⟩
      obtain ⟨hb, _, _, _, _, _, _, _, hy3, _⟩ := HA.out.item hy.out
      have hyl : y.text.length ≤ 1000000000 := (HS.out.2 n y hy.out).2.1
      have hY : wr.cell? ⟨(ad.add (n * 5)).block, (ad.add (n * 5)).off + 3, none⟩ = some (.string ⟨y.text.toArray⟩) := (hbel.cell (by rw [block_of_add]; exact hb)).trans hy3
      have hin' := hin.out
      rw [drop_cons hy.out] at hin'
      have j1 : (n : Int) < l.length := by omega
      clear hy3 hin
      by_cases hc : 1500 < y.text.length
      · have HIN : Hid (R = true) := by show _ = _; rw [← hin']; simp [longB, hc]
        have hc' : (1500 : Int) < (y.text.length : Int) := by omega
        clear hin' hc
        go_wp2_with fail
        go_ret
        exact ⟨by rw [HIN.out]; rfl, hbel⟩
      · have HIN : Hid (longB (l.drop (n + 1)) = R) := by show _ = _; rw [← hin']; simp [longB, hc]
        have hc' : (y.text.length : Int) ≤ 1500 := by omega
        clear hin' hc
        go_wp2_with fail
        go_roundw
        case rel => exact ⟨n + 1, by omega, by go_num, HIN, hbel⟩
        case measure => simp [intOf]; omega
    · have HIN : Hid (R = false) := by
        show _ = _
        rw [← hin.out, List.drop_eq_nil_of_le (by omega)]
        rfl
      have j1 : (l.length : Int) ≤ n := by omega
      clear hin
      go_wp2_with fail
      go_ret
      exact ⟨by rw [HIN.out]; rfl, hbel⟩

set_option maxRecDepth 100000 in
set_option maxHeartbeats 4000000 in
theorem walk_ScribeBack (l : List ItemD) (A : Option Addr) (c : Nat) (w : World) (hA : ItemsAt w w.heap.size A l) (hs : SmallDoc l) :
    Calls Try.prog 14 #[.slice A l.length c] w (Ret w (.bool true)) := by
  have HA := Lib.hid hA
  obtain ⟨N, hN⟩ : ∃ N, Hid (normalL l = N) := ⟨_, rfl⟩
  have hNs : Hid (SmallItems N) := by show SmallItems N; rw [← hN.out]; exact normal_small hs
  have HS := Lib.hid hs
  by_cases hc : (checkL l).2 = 0
  · obtain ⟨T, hT⟩ : ∃ T, Hid (nodeAt N 0 = T) := ⟨_, rfl⟩
    have HP : Hid (printL l = (T, 0)) := by show _ = _; unfold printL; rw [if_pos hc, hN.out, hT.out]
    have hd := checkL_ok hc
    have HT : Hid ((⟨T.toArray⟩ : ByteArray).size ≤ 250000000) := by
      have := hd.small
      rw [hN.out, hT.out] at this
      show (T.toArray.size : Nat) ≤ _
      simpa using this
    have hbk := back_normal hd
    rw [hN.out, hT.out] at hbk
    obtain ⟨B, hB⟩ : ∃ B, Hid (longB N = B) := ⟨_, rfl⟩
    have HBK := Lib.hid hbk
    clear hA hs hc hd hbk
    go_enter Try.func14, Try.ntmps14
    go_wp2_with fail
    refine (Print_any l A c w HA.out HS.out T 0 HP).mono ?_
    rintro e1 w1 ⟨rfl, hb1⟩
    have hz1 := hb1.size
    go_wp2_with fail
    refine (Normal_any l A c w1 (HA.out.later hb1) HS.out N hN).mono ?_
    intro e2 w2 hpost
    obtain ⟨A2, c2, rfl, hI2, hb2⟩ := hpost.items
    have HI2 := Lib.hid hI2
    have hz2 := hb2.size
    have hw2 : Below w.heap.size w w2 := hb1.trans (hb2.mono hz1)
    clear hpost hI2
    go_wp2_with fail
    cases hBv : B with
    | true =>
      rw [hBv] at hB
      have hns := longB_true hB.out
      obtain ⟨k, hk⟩ : ∃ k, parseL 0 T [] [] = ([], k, 34) := by
        rcases HBK.out with ⟨h, _⟩ | ⟨_, h⟩
        · exact absurd h hns
        · exact h
      have HK : Hid (parseL 0 (⟨T.toArray⟩ : ByteArray).data.toList [] [] = ([], k, 34)) := hk
      clear hns hk hBv
      refine (Parse_wide ⟨T.toArray⟩ w2 HT.out _ HK).mono ?_
      rintro e3 w3 ⟨hb3, hpost3⟩
      rcases hpost3 with ⟨h, _⟩ | ⟨_, rfl⟩
      · have h' : (34 : Int) = 0 := h
        exact absurd h' (by decide)
      have hz3 := hb3.size
      have hw3 : Below w.heap.size w w3 := hw2.trans (hb3.mono (by omega))
      go_wp2_with fail
      refine (Long_any N A2 c2 w3 (HI2.out.later hb3) hNs.out true hB).mono ?_
      rintro e4 w4 ⟨rfl, hb4⟩
      have hz4 := hb4.size
      have hw4 : Below w.heap.size w w4 := hw3.trans (hb4.mono (by omega))
      go_wp2_with fail
      refine (alive5_any w4).mono ?_
      rintro e5 w5 ⟨rfl, hb5⟩
      go_wp2_with fail
      go_ret
      exact ⟨rfl, hw4.trans (hb5.mono (by omega))⟩
    | false =>
      rw [hBv] at hB
      have hns := longB_false hB.out
      have HK : Hid (parseL 0 (⟨T.toArray⟩ : ByteArray).data.toList [] [] = (N, 0, 0)) := by
        show parseL 0 T [] [] = _
        rcases HBK.out with ⟨_, h⟩ | ⟨h, _⟩
        · exact h
        · exact absurd hns h
      clear hns hBv
      refine (Parse_wide ⟨T.toArray⟩ w2 HT.out _ HK).mono ?_
      rintro e3 w3 ⟨hb3, hpost3⟩
      rcases hpost3 with ⟨_, A3, c3, S3, rfl, hown, hat, hS⟩ | ⟨h, _⟩
      case inr => exact absurd rfl h
      have hS' : S3.map (·.1) = N := hS
      have hlen : Hid (S3.length = N.length) := by show _ = _; rw [← hS', List.length_map]
      have HAT : Hid (ItemsAt w3 w3.heap.size A3 N) := by
        show ItemsAt _ _ _ _
        rw [← hS']; exact items_at hown hat
      clear hown hat hS hS'
      have hz3 := hb3.size
      have hw3 : Below w.heap.size w w3 := hw2.trans (hb3.mono (by omega))
      go_wp2_with fail
      refine (Long_any N A2 c2 w3 (HI2.out.later hb3) hNs.out false hB).mono ?_
      rintro e4 w4 ⟨rfl, hb4⟩
      have hz4 := hb4.size
      have hw4 : Below w.heap.size w w4 := hw3.trans (hb4.mono (by omega))
      go_wp2_with fail
      refine (alive5_any w4).mono ?_
      rintro e5 w5 ⟨rfl, hb5⟩
      have hz5 := hb5.size
      have hw5 : Below w.heap.size w w5 := hw4.trans (hb5.mono (by omega))
      go_wp2_with fail
      rw [hlen.out]
      refine (Same_any N N A3 A2 c3 c2 w5 ((HAT.out.later hb4).later hb5) (((HI2.out.later hb3).later hb4).later hb5) hNs.out hNs.out true (by show _ = _; simp)).mono ?_
      rintro e6 w6 ⟨rfl, hb6⟩
      go_wp2_with fail
      go_ret
      exact ⟨rfl, hw5.trans (hb6.mono (by omega))⟩
  · obtain ⟨q, hq⟩ : ∃ q, Hid ((checkL l).2 = q) := ⟨_, rfl⟩
    have HP : Hid (printL l = ([], q)) := by show _ = _; unfold printL; rw [if_neg hc, hq.out]
    have d1 : (q != 0) = true := by rw [← hq.out]; simpa using hc
    clear hA hs hc
    go_enter Try.func14, Try.ntmps14
    go_wp2_with fail
    refine (Print_any l A c w HA.out HS.out [] q HP).mono ?_
    rintro e1 w1 ⟨rfl, hb1⟩
    go_wp2_with fail
    refine (alive5_any w1).mono ?_
    rintro e5 w5 ⟨rfl, hb5⟩
    go_wp2_with fail
    go_ret
    exact ⟨rfl, hb1.trans (hb5.mono hb1.size)⟩
end Go.Proofs.Ythifddkmbjnncaa

/-
  Rows of items that come in as an argument: what a reading of them says of memory.
-/
namespace Go.Proofs.Ythifddkmbjnncaa
open Go.RowKit Go.ChangeShapes Go.WideShapes Go.Deep

theorem add_more (ad : Addr) (a j : Nat) (hj : j ≠ 0) : ad.add (a + j) = ⟨(ad.add a).block, (ad.add a).off + j, none⟩ := by
  rw [← add_of_add]
  generalize ad.add a = b
  unfold Addr.add
  rw [if_neg hj]

/-- A row of structs whose fields have a cell each: what a reading of it says of each element's each field. -/
theorem slice_structs {H : Type} {enc : TypeId × Value → H} {P : Program} {w : World} {t e : TypeId} {fs : Array Field} {fuel : Nat} {cs : List Value} {x : DataW H × List MemPlace} (ht : P.underlying t = some (.slice e)) (he : P.underlying e = some (.struct fs))
    (h1 : oneCellFields P fs = true) (h2 : P.cellsOf e = fs.size) (h : DataW.trod enc P w 0 (fun _ => true) true fuel t cs = some x) :
    (cs = [.slice none 0 0] ∧ x.1 = .nil) ∨
    ∃ (a : Addr) (len cap : Nat) (D : Nat → DataW H) (rest : List (DataW H)), cs = [.slice (some a) len cap] ∧ len ≤ cap ∧ cap ≤ maxLen ∧ x.1 = .slice ((List.range len).map D) rest ∧
      ∀ i, i < len → ∃ (ys : List (DataW H × List MemPlace)) (n : Nat), D i = .agg (ys.map (·.1)) ∧ ys.length = fs.size ∧
        ∀ (j : Nat) (f : Field), fs[j]? = some f → ∃ v y, w.cell? (a.add (i * fs.size + j)) = some v ∧ ys[j]? = some y ∧ DataW.trod enc P w 0 (fun _ => true) true n f.type [v] = some y := by
  rcases open_slice ht h with ⟨e1, e2⟩ | ⟨a, len, cap, m, n, D, Pl, e1, _, k1, k2, k3, e2, each⟩
  · exact .inl ⟨e1, by rw [e2]⟩
  · right
    have hm : m = cap := by simpa using k3
    refine ⟨a, len, cap, D, _, e1, k1, k2, by rw [e2], fun i hi => ?_⟩
    obtain ⟨row, hrow, hread⟩ := each i (by omega)
    obtain ⟨_, hl, hat⟩ := World.cells?_some hrow
    obtain ⟨ys, n', _, hy, _, hyl, hfield⟩ := DataW.trod_struct he hread
    refine ⟨ys, n', by rw [Prod.mk.injEq] at hy; exact hy.1, hyl, fun j f hj => ?_⟩
    have hjs : j < fs.size := (Array.getElem?_eq_some_iff.1 hj).1
    obtain ⟨o1, o2⟩ := hone_of h1 j f hj
    have hjr : j < row.length := by rw [hl, h2]; exact hjs
    have hv := hat j (by rw [h2]; exact hjs)
    have hone : (row.drop f.offset).take (P.cellsOf f.type) = [row[j]] := by rw [o1, o2, List.drop_eq_getElem_cons hjr]; rfl
    have hr := hfield j f hj
    rw [hone] at hr
    have hys : ys[j]? = some (ys[j]'(by omega)) := List.getElem?_eq_getElem _
    refine ⟨row[j], _, ?_, hys, hr.trans hys⟩
    rw [h2, add_of_add, List.getElem?_eq_getElem hjr] at hv
    exact hv

theorem list_of {α : Type} {P : Nat → α → Prop} : ∀ (n : Nat), (∀ i, i < n → ∃ x, P i x) → ∃ l : List α, l.length = n ∧ ∀ i x, l[i]? = some x → P i x
  | 0, _ => ⟨[], rfl, fun _ _ h => by simp at h⟩
  | n + 1, h => by
    obtain ⟨l, hl, hp⟩ := list_of n (fun i hi => h i (by omega))
    obtain ⟨x, hx⟩ := h n (by omega)
    refine ⟨l ++ [x], by simp [hl], fun i y hy => ?_⟩
    by_cases hi : i < l.length
    · rw [List.getElem?_append_left hi] at hy; exact hp i y hy
    · rw [List.getElem?_append_right (by omega)] at hy
      have : i - l.length = 0 := by
        have := (List.getElem?_eq_some_iff.1 hy).1
        simp at this; omega
      rw [this] at hy
      simp at hy; subst hy
      rw [show i = n by omega]; exact hx

theorem bulkAll_range {H : Type} (D : Nat → DataW H) : ∀ n i, i < n → Rows.uptoBulk (D i) ≤ Rows.uptoBulkAll ((List.range n).map D) := by
  have app : ∀ (a b : List (DataW H)), Rows.uptoBulkAll (a ++ b) = Rows.uptoBulkAll a + Rows.uptoBulkAll b := by
    intro a b
    induction a with
    | nil => simp [Rows.uptoBulkAll]
    | cons x a ih => simp only [List.cons_append, Rows.uptoBulkAll, ih]; omega
  intro n
  induction n with
  | zero => intro i h; omega
  | succ n ih =>
    intro i h
    rw [List.range_succ, List.map_append, app]
    by_cases hi : i < n
    · have := ih i hi; omega
    · have : i = n := by omega
      subst this
      simp [Rows.uptoBulkAll]
theorem bulkAll_sum {H α : Type} (f : α → Nat) (D : Nat → DataW H) : ∀ (l : List α), (∀ i x, l[i]? = some x → f x ≤ Rows.uptoBulk (D i)) → (l.map f).sum ≤ Rows.uptoBulkAll ((List.range l.length).map D) := by
  have app : ∀ (a b : List (DataW H)), Rows.uptoBulkAll (a ++ b) = Rows.uptoBulkAll a + Rows.uptoBulkAll b := by
    intro a b
    induction a with
    | nil => simp [Rows.uptoBulkAll]
    | cons x a ih => simp only [List.cons_append, Rows.uptoBulkAll, ih]; omega
  have key : ∀ (n : Nat) (l : List α), l.length = n → (∀ i x, l[i]? = some x → f x ≤ Rows.uptoBulk (D i)) → (l.map f).sum ≤ Rows.uptoBulkAll ((List.range n).map D) := by
    intro n
    induction n with
    | zero => intro l hl _; rw [List.eq_nil_of_length_eq_zero hl]; simp
    | succ n ih =>
      intro l hl h
      have hne : l ≠ [] := fun e => by rw [e] at hl; cases hl
      rw [← List.dropLast_concat_getLast hne, List.map_append, List.sum_append, List.range_succ, List.map_append, app]
      have h1 := ih l.dropLast (by simp [hl]) (fun i x hx => h i x (by
        have hi := (List.getElem?_eq_some_iff.1 hx).1
        rw [List.getElem?_dropLast] at hx
        split at hx
        · exact hx
        · cases hx))
      have h2 := h n (l.getLast hne) (by rw [List.getLast_eq_getElem, ← List.getElem?_eq_getElem, hl]; rfl)
      simp only [List.map_cons, List.map_nil, List.sum_cons, List.sum_nil, Rows.uptoBulkAll]
      omega
  intro l h
  exact key l.length l rfl h

theorem sum_ones {α : Type} (l : List α) : (l.map (fun _ => 1)).sum = l.length := by
  induction l with
  | nil => rfl
  | cons x l ih => rw [List.map_cons, List.sum_cons, ih, List.length_cons]; omega

theorem open_attrs {W : World} {H : Type} {enc : TypeId × Value → H} {fuel : Nat} {cs : List Value} {x : DataW H × List MemPlace} (h : DataW.trod enc Try.prog W 0 (fun _ => true) true fuel 31 cs = some x) :
    ∃ (A : Option Addr) (c : Nat) (l : List AttrD), cs = [.slice A l.length c] ∧ AttrsAt W W.heap.size A l ∧ l.length ≤ c ∧ (A = none → c = 0) ∧ l.length ≤ Rows.uptoBulk x.1 ∧ (∀ a ∈ l, a.name.length + a.value.length ≤ Rows.uptoBulk x.1) := by
  rcases slice_structs Try.underlying31 Try.underlying44 (by kernel_rfl) (by kernel_rfl) h with ⟨rfl, hx⟩ | ⟨a, len, cap, D, rest, rfl, hlc, hcm, hx, hf⟩
  · exact ⟨none, 0, [], rfl, fun h => absurd h (by simp), Nat.le_refl _, fun _ => rfl, by simp, by simp⟩
  · rw [hx]
    obtain ⟨l, hl, hp⟩ := list_of (P := fun i (y : AttrD) => W.cell? (a.add (i * 2)) = some (strV y.name) ∧ W.cell? ⟨(a.add (i * 2)).block, (a.add (i * 2)).off + 1, none⟩ = some (strV y.value) ∧ y.name.length + y.value.length + 1 ≤ Rows.uptoBulk (D i)) len (fun i hi => by
      obtain ⟨ys, n, hD, hyl, hj⟩ := hf i hi
      obtain ⟨v0, y0, hc0, hy0, ht0⟩ := hj 0 _ rfl
      obtain ⟨v1, y1, hc1, hy1, ht1⟩ := hj 1 _ rfl
      obtain ⟨s0, e0, rfl, _⟩ := DataW.trod_string Try.underlying9 ht0
      obtain ⟨s1, e1, rfl, _⟩ := DataW.trod_string Try.underlying9 ht1
      injection e0 with e0 _; subst e0
      injection e1 with e1 _; subst e1
      refine ⟨⟨s0.data.toList, s1.data.toList⟩, ?_, ?_, ?_⟩
      · rw [Nat.add_zero] at hc0
        rw [show i * 2 = i * (_ : Nat) from rfl]; exact hc0
      · rw [add_more _ _ _ (by decide)] at hc1; exact hc1
      · rw [hD]
        match ys, hyl, hy0, hy1 with
        | [z0, z1], _, hy0, hy1 =>
          simp at hy0 hy1
          subst hy0; subst hy1
          simp [Rows.uptoBulk, Rows.uptoBulkAll]
          omega)
    refine ⟨some a, cap, l, by rw [hl], ?_, by omega, (fun h => by cases h), ?_, ?_⟩
    · intro hpos
      have h0 : l[0]? = some (l[0]'hpos) := List.getElem?_eq_getElem hpos
      have hb := World.block_lt_of_cell? W _ (hp 0 _ h0).1
      rw [block_of_add] at hb
      exact ⟨a, rfl, hb, fun k y hy => ⟨(hp k y hy).1, (hp k y hy).2.1⟩⟩
    · have := bulkAll_sum (fun _ : AttrD => 1) D l (fun i y hy => by have := (hp i y hy).2.2; omega)
      rw [hl] at this
      simp only [Rows.uptoBulk]
      have e := sum_ones l
      omega
    · intro y hy
      obtain ⟨k, hk⟩ := List.mem_iff_getElem?.1 hy
      have h1 := (hp k y hk).2.2
      have h2 := bulkAll_range D len k (by rw [← hl]; exact (List.getElem?_eq_some_iff.1 hk).1)
      simp only [Rows.uptoBulk]
      omega

/-- A nil slice of attributes has no room. -/
def NilAt (w : World) (A : Option Addr) (l : List ItemD) : Prop := ∀ ad, A = some ad → ∀ k x A' c', l[k]? = some x → w.cell? ⟨(ad.add (k * 5)).block, (ad.add (k * 5)).off + 4, none⟩ = some (.slice A' x.attrs.length c') → A' = none → c' = 0

theorem open_items {W : World} {H : Type} {enc : TypeId × Value → H} {v : Value} {d : DataW H} {p : List MemPlace} (hok : ∃ a n c, v = .slice a n c) (h : DataW.Trod enc Try.prog W 0 (fun _ => true) true 45 v d p) (hbulk : Rows.uptoBulk d ≤ 1048576) :
    ∃ (A : Option Addr) (c : Nat) (l : List ItemD), v = .slice A l.length c ∧ ItemsAt W W.heap.size A l ∧ SmallDoc l ∧ l.length ≤ 1048576 ∧ textSum l ≤ 1048576 ∧ NilAt W A l := by
  obtain ⟨va, vn, vc, rfl⟩ := hok
  obtain ⟨fuel, h⟩ := h
  rcases slice_structs Try.underlying45 Try.underlying50 (by kernel_rfl) (by kernel_rfl) h with ⟨e, e2⟩ | ⟨a, len, cap, D, rest, e, hlc, hcm, e2, hf⟩
  · injection e with e _
    injection e with e1 e2' e3
    subst e1; subst e2'; subst e3
    refine ⟨none, 0, [], rfl, fun h => absurd h (by simp), ⟨⟨by simp, fun _ _ h => by simp at h⟩, by simp [textSum]⟩, by simp, by simp [textSum], fun _ h => by cases h⟩
  · injection e with e _
    injection e with e1 e2' e3
    subst e1
    have e2'' := e2'.symm
    have e3'' := e3.symm
    subst e2''; subst e3''
    have e2 : d = .slice ((List.range len).map D) rest := e2
    subst e2
    obtain ⟨l, hl, hp⟩ := list_of (P := fun i (x : ItemD) => ∃ (A' : Option Addr) (c' : Nat), AttrsAt W W.heap.size A' x.attrs ∧ x.attrs.length ≤ c' ∧ W.cell? (a.add (i * 5)) = some (.int .i64 x.level) ∧ W.cell? ⟨(a.add (i * 5)).block, (a.add (i * 5)).off + 1, none⟩ = some (.int .i64 x.kind) ∧
        W.cell? ⟨(a.add (i * 5)).block, (a.add (i * 5)).off + 2, none⟩ = some (strV x.name) ∧ W.cell? ⟨(a.add (i * 5)).block, (a.add (i * 5)).off + 3, none⟩ = some (strV x.text) ∧ W.cell? ⟨(a.add (i * 5)).block, (a.add (i * 5)).off + 4, none⟩ = some (.slice A' x.attrs.length c') ∧
        (-9223372036854775808 ≤ x.level ∧ x.level ≤ 9223372036854775807) ∧ x.name.length + x.text.length + x.attrs.length + 1 ≤ Rows.uptoBulk (D i) ∧ (∀ y ∈ x.attrs, y.name.length + y.value.length ≤ Rows.uptoBulk (D i)) ∧ (A' = none → c' = 0)) len (fun i hi => by
      obtain ⟨ys, n, hD, hyl, hj⟩ := hf i hi
      obtain ⟨v0, y0, hc0, hy0, ht0⟩ := hj 0 _ rfl
      obtain ⟨v1, y1, hc1, hy1, ht1⟩ := hj 1 _ rfl
      obtain ⟨v2, y2, hc2, hy2, ht2⟩ := hj 2 _ rfl
      obtain ⟨v3, y3, hc3, hy3, ht3⟩ := hj 3 _ rfl
      obtain ⟨v4, y4, hc4, hy4, ht4⟩ := hj 4 _ rfl
      obtain ⟨n0, e0, rfl, w0⟩ := DataW.trod_int Try.underlying3 ht0
      obtain ⟨n1, e1, rfl, _⟩ := DataW.trod_int Try.underlying3 ht1
      obtain ⟨s2, e2, rfl, _⟩ := DataW.trod_string Try.underlying9 ht2
      obtain ⟨s3, e3, rfl, _⟩ := DataW.trod_string Try.underlying9 ht3
      obtain ⟨A', c', la, e4, hat, hlc', hnil, hb1, hb2⟩ := open_attrs ht4
      injection e0 with e0 _; subst e0
      injection e1 with e1 _; subst e1
      injection e2 with e2 _; subst e2
      injection e3 with e3 _; subst e3
      injection e4 with e4 _; subst e4
      rw [add_more _ _ _ (by decide)] at hc1 hc2 hc3 hc4
      rw [Nat.add_zero] at hc0
      refine ⟨⟨n0, n1, s2.data.toList, s3.data.toList, la⟩, A', c', hat, hlc', hc0, hc1, hc2, hc3, hc4, ?_, ?_, ?_, hnil⟩
      · simp [Lit.wf, IntKind.min, IntKind.max, IntKind.signed, IntKind.bits] at w0
        show -9223372036854775808 ≤ n0 ∧ n0 ≤ 9223372036854775807
        exact ⟨by omega, by omega⟩
      · rw [hD]
        match ys, hyl, hy0, hy1, hy2, hy3, hy4 with
        | [z0, z1, z2, z3, z4], _, hy0, hy1, hy2, hy3, hy4 =>
          simp at hy0 hy1 hy2 hy3 hy4
          subst hy0; subst hy1; subst hy2; subst hy3; subst hy4
          simp [Rows.uptoBulk, Rows.uptoBulkAll]
          omega
      · intro y hy
        rw [hD]
        have := hb2 y hy
        match ys, hyl, hy0, hy1, hy2, hy3, hy4 with
        | [z0, z1, z2, z3, z4], _, hy0, hy1, hy2, hy3, hy4 =>
          simp at hy0 hy1 hy2 hy3 hy4
          subst hy0; subst hy1; subst hy2; subst hy3; subst hy4
          simp [Rows.uptoBulk, Rows.uptoBulkAll]
          omega)
    simp only [Rows.uptoBulk] at hbulk
    have hone : ∀ k, k < len → Rows.uptoBulk (D k) ≤ 1048576 := fun k hk => by have := bulkAll_range D len k hk; omega
    have hcount := bulkAll_sum (fun _ : ItemD => 1) D l (fun i y hy => by obtain ⟨_, _, _, _, _, _, _, _, _, _, h, _⟩ := hp i y hy; omega)
    have htext := bulkAll_sum (fun x : ItemD => x.text.length) D l (fun i y hy => by obtain ⟨_, _, _, _, _, _, _, _, _, _, h, _⟩ := hp i y hy; omega)
    have e := sum_ones l
    rw [hl] at hcount htext
    have hl2 : l.length ≤ 1048576 := by omega
    have ht2 : textSum l ≤ 1048576 := by unfold textSum; omega
    refine ⟨some a, cap, l, by rw [hl], ?_, ⟨⟨by omega, fun k x hx => ?_⟩, by omega⟩, hl2, ht2, ?_⟩
    · intro hpos
      have h0 : l[0]? = some (l[0]'hpos) := List.getElem?_eq_getElem hpos
      obtain ⟨_, _, _, _, hc0, _⟩ := hp 0 _ h0
      have hb := World.block_lt_of_cell? W _ hc0
      rw [block_of_add] at hb
      refine ⟨a, rfl, hb, fun k x hx => ?_⟩
      obtain ⟨A', c', k1, k2, k3, k4, k5, k6, k7, _⟩ := hp k x hx
      exact ⟨A', c', k1, k2, k3, k4, k5, k6, k7⟩
    · obtain ⟨A', c', k1, k2, k3, k4, k5, k6, k7, k8, k9, k10⟩ := hp k x hx
      have hk := hone k (by rw [← hl]; exact (List.getElem?_eq_some_iff.1 hx).1)
      exact ⟨by omega, by omega, by omega, fun j y hy => by have := k10.1 y (List.mem_of_getElem? hy); omega, k8⟩
    · intro ad had k x A2 c2 hx hcell hA2
      injection had with had
      subst had
      obtain ⟨A', c', k1, k2, k3, k4, k5, k6, k7, k8, k9, k10⟩ := hp k x hx
      rw [k7] at hcell
      injection hcell with hcell
      injection hcell with q1 _ q3
      rw [← q3]
      exact k10.2 (by rw [q1]; exact hA2)
end Go.Proofs.Ythifddkmbjnncaa

/-
  The law ScribeAgain walked.
-/
namespace Go.Proofs.Ythifddkmbjnncaa
open Go.RowKit

set_option maxRecDepth 100000 in
set_option maxHeartbeats 4000000 in
theorem walk_ScribeAgain (s : ByteArray) (w : World) (_hm : s.size ≤ maxLen) : Calls Try.prog 15 #[.string s] w (Ret w (.bool true)) := by
  by_cases hbig : 20000 < s.size
  · have hb' : (20000 : Int) < s.size := by omega
    clear _hm
    go_enter Try.func15, Try.ntmps15
    go_wp2_with fail
    refine (alive5_any w).mono ?_
    rintro e1 w1 ⟨rfl, hb1⟩
    go_wp2_with fail
    go_ret
    exact ⟨rfl, hb1⟩
  · have hb' : (s.size : Int) ≤ 20000 := by omega
    have hs : s.size ≤ 100000000 := by omega
    obtain ⟨R, hR⟩ : ∃ R, Hid (parseL 0 s.data.toList [] [] = R) := ⟨_, rfl⟩
    have HBIG := Lib.hid hbig
    clear _hm hbig
    go_enter Try.func15, Try.ntmps15
    go_wp2_with fail
    refine (Parse_any s w hs R hR).mono ?_
    rintro e w1 ⟨hb1, hpost⟩
    have hz1 := hb1.size
    rcases hpost with ⟨hR0, A, c, S, rfl, hown, hat, hS⟩ | ⟨hR0, rfl⟩
    · have hR0' : (parseL 0 s.data.toList [] []).2.2 = 0 := by rw [hR.out]; exact hR0
      obtain ⟨l, hl1, hd, hnf, hck, hpr, hbk⟩ := again hR0'
      have hSl : S.map (·.1) = l := by rw [hS, ← hR.out, hl1]
      have hlen : Hid (S.length = l.length) := by show _ = _; rw [← hSl, List.length_map]
      have hlR : l = (parseL 0 s.data.toList [] []).1 := by rw [hl1]
      have hsm : SmallItems l := by
        rw [hlR]
        exact small_of_sm (N := s.data.toList.length) (by rw [size_toList]; omega) (by have := parse_many hR0'; omega) parse_sm
      have hts : textSum l ≤ 1000000000 := by
        have h1 := textSum_fit l (fun x hx => (hd.parts x hx).2)
        have h2 := hd.many
        omega
      have HSD : Hid (SmallDoc l) := ⟨hsm, hts⟩
      have HAT : Hid (ItemsAt w1 w1.heap.size A l) := by
        show ItemsAt _ _ _ _
        rw [← hSl]; exact items_at hown hat
      obtain ⟨T, hT⟩ : ∃ T, Hid (nodeAt l 0 = T) := ⟨_, rfl⟩
      rw [hT.out] at hpr hbk
      have HPR : Hid (printL l = (T, 0)) := hpr
      have HK : Hid (parseL 0 (⟨T.toArray⟩ : ByteArray).data.toList [] [] = (l, 0, 0)) := hbk
      have HT : Hid ((⟨T.toArray⟩ : ByteArray).size ≤ 250000000) := by
        have := hd.small
        rw [nf_normal l hnf, hT.out] at this
        show (T.toArray.size : Nat) ≤ _
        simpa using this
      clear hown hat hS hSl hR0 hR0' hlR hl1 hd hnf hck hpr hbk hsm hts
      go_wp2_with fail
      rw [hlen.out]
      refine (Print_any l A c w1 HAT.out HSD.out T 0 HPR).mono ?_
      rintro e2 w2 ⟨rfl, hb2⟩
      have hz2 := hb2.size
      have hw2 : Below w.heap.size w w2 := hb1.trans (hb2.mono hz1)
      have HAT2 : Hid (ItemsAt w2 w2.heap.size A l) := (HAT.out.below hb2).more hz2
      go_wp2_with fail
      refine (Parse_wide ⟨T.toArray⟩ w2 HT.out _ HK).mono ?_
      rintro e3 w3 ⟨hb3, hpost3⟩
      rcases hpost3 with ⟨_, A3, c3, S3, rfl, hown, hat, hS⟩ | ⟨h, _⟩
      case inr => exact absurd rfl h
      have hS' : S3.map (·.1) = l := hS
      have hlen3 : Hid (S3.length = l.length) := by show _ = _; rw [← hS', List.length_map]
      have HAT3 : Hid (ItemsAt w3 w3.heap.size A3 l) := by
        show ItemsAt _ _ _ _
        rw [← hS']; exact items_at hown hat
      clear hown hat hS hS'
      have hz3 := hb3.size
      have hw3 : Below w.heap.size w w3 := hw2.trans (hb3.mono (by omega))
      have HAT4 : Hid (ItemsAt w3 w3.heap.size A l) := (HAT2.out.below hb3).more hz3
      go_wp2_with fail
      rw [hlen3.out]
      refine (Print_any l A3 c3 w3 HAT3.out HSD.out T 0 HPR).mono ?_
      rintro e4 w4 ⟨rfl, hb4⟩
      have hz4 := hb4.size
      have hw4 : Below w.heap.size w w4 := hw3.trans (hb4.mono (by omega))
      go_wp2_with fail
      refine (alive5_any w4).mono ?_
      rintro e5 w5 ⟨rfl, hb5⟩
      have hz5 := hb5.size
      have hw5 : Below w.heap.size w w5 := hw4.trans (hb5.mono (by omega))
      have HA5 : Hid (ItemsAt w5 w5.heap.size A l) := (((HAT4.out.below hb4).more hz4).below hb5).more hz5
      have HB5 : Hid (ItemsAt w5 w5.heap.size A3 l) := (((HAT3.out.below hb4).more hz4).below hb5).more hz5
      go_wp2_with fail
      refine (Same_any l l A A3 c c3 w5 HA5.out HB5.out HSD.out.1 HSD.out.1 true (by show _ = _; simp)).mono ?_
      rintro e6 w6 ⟨rfl, hb6⟩
      go_wp2_with fail
      go_ret
      exact ⟨rfl, hw5.trans (hb6.mono (by omega))⟩
    · have he1 : (R.2.2 != 0) = true := by simpa using hR0
      clear hR0
      go_wp2_with fail
      refine (alive5_any w1).mono ?_
      rintro e3 w3 ⟨rfl, hb3⟩
      go_wp2_with fail
      go_ret
      exact ⟨rfl, hb1.trans (hb3.mono hb1.size)⟩
end Go.Proofs.Ythifddkmbjnncaa
