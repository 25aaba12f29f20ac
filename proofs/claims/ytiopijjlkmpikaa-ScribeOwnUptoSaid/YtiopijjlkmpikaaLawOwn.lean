/-
  The law ScribeOwn.
-/
import Derived.Test.YtiopijjlkmpikaaLaw5
import Derived.Test.YtiopijjlkmpikaaOpen
import Derived.Laws.AppendOwnNone
namespace Go.Proofs.Ytiopijjlkmpikaa
open Go.RowKit

/-- A slice of attributes in rows of the call's own, whatever it holds. -/
def RowOk (w : World) (B : Nat) (A : Option Addr) (n : Nat) : Prop :=
  0 < n → ∃ g cur, A = some ⟨g, 0, none⟩ ∧ B ≤ g ∧ w.heap[g]? = some (.cells cur 33 (0, 0)) ∧ n * 2 ≤ cur.size
theorem AttrsOwn.row {w : World} {B : Nat} {A : Option Addr} {c : Nat} {l : List AttrD} (h : AttrsOwn w B A c l) : RowOk w B A l.length := fun hn => by
  rcases h.2 with ⟨_, h0⟩ | ⟨g, cap, cur, hv, hb, hc, h1, _, h2, _⟩
  · omega
  · injection hv with hv _ _
    exact ⟨g, cur, hv, hb, hc, by rw [h2]; omega⟩
theorem heap_set_any (w : World) (g j : Nat) (v : Value) (k : Nat) (cur : Array Value) (e : TypeId) (h : w.heap[k]? = some (.cells cur e (0, 0))) : ∃ cur', (w.setCell ⟨g, j, none⟩ v).heap[k]? = some (.cells cur' e (0, 0)) ∧ cur'.size = cur.size := by
  by_cases hk : k = g
  · subst hk
    exact ⟨_, heap_setCell_same w k j cur e v h, by simp⟩
  · exact ⟨cur, by rw [heap_setCell_other w ⟨g, j, none⟩ k v hk]; exact h, rfl⟩
theorem RowOk.set {w : World} {B : Nat} {A : Option Addr} {n : Nat} (h : RowOk w B A n) (g j : Nat) (v : Value) : RowOk (w.setCell ⟨g, j, none⟩ v) B A n := fun hn => by
  obtain ⟨g1, cur, h1, h2, h3, h4⟩ := h hn
  obtain ⟨cur', h5, h6⟩ := heap_set_any w g j v g1 cur _ h3
  exact ⟨g1, cur', h1, h2, h5, by omega⟩
theorem own_set_other {w : World} {B : Nat} {e e' : TypeId} {size : Nat} {v : Value} {n : Nat} {xs : List Value} (h : w.ownsRow B e size v n xs) {g : Nat} {cur : Array Value} (hg : w.heap[g]? = some (.cells cur e' (0, 0))) (he : e ≠ e') (j : Nat) (u : Value) : (w.setCell ⟨g, j, none⟩ u).ownsRow B e size v n xs := by
  refine ⟨h.1, ?_⟩
  rcases h.2 with h | ⟨g1, cap, cur1, k1, k2, k3, k4⟩
  · exact .inl h
  · refine .inr ⟨g1, cap, cur1, k1, k2, ?_, k4⟩
    have : g1 ≠ g := fun hh => by
      subst hh
      rw [k3] at hg
      injection hg with hg
      injection hg with _ hg _
      exact he hg
    rw [heap_setCell_other w ⟨g, j, none⟩ g1 u this]; exact k3

def mineV : Value := .string ⟨[109, 105, 110, 101].toArray⟩
def mine (s : Slot) : Slot := ({ s.1 with name := [109, 105, 110, 101] }, s.2.1, s.2.2)

set_option maxRecDepth 100000 in
set_option maxHeartbeats 4000000 in
theorem walk_ScribeOwn (l : List ItemD) (A : Option Addr) (c : Nat) (w : World) (hA : ItemsAt w w.heap.size A l) (hs : SmallDoc l) (hnil : NilAt w A l) :
    Calls Try.prog 4 #[.slice A l.length c] w (Ret w (.bool true)) := by
  have HA := Lib.hid hA
  have HS := Lib.hid hs
  have HNIL := Lib.hid hnil
  have hs1 := hs.1.1
  have HS2 := Lib.hid hs.1.2
  clear hA hs hnil
  go_enter Try.func4, Try.ntmps4
  go_wp2_with fail
  go_loopw [3, 11] (fun o i wr => ∃ (k : Nat) (S : List Slot) (ad : Option Addr) (cp m : Nat), k ≤ l.length ∧ i = .int .i64 k ∧ o = .slice ad m cp ∧ Hid (S.length = m) ∧ m ≤ k ∧ Hid (S.map (·.1) = l.take k) ∧ Hid (ItemsOwn wr w.heap.size ad cp S) ∧ Hid (∀ s ∈ S, AttrsOwn wr w.heap.size s.2.1 s.2.2 s.1.attrs) ∧
      Below w.heap.size w wr) (fun _ i _ => l.length - (intOf i).toNat)
  case atStart => exact ⟨0, [], none, 0, 0, Nat.zero_le _, rfl, rfl, rfl, Nat.le_refl _, rfl, World.ownsRow_nil _ _ _ _, (fun _ h => absurd h List.not_mem_nil : ∀ s ∈ ([] : List Slot), AttrsOwn w w.heap.size s.2.1 s.2.2 s.1.attrs), Below.refl _ _⟩
  case round =>
    obtain ⟨k, S, ad, cp, m, hk, rfl, rfl, hm, hmk, hmap, hown, hattr, hbel⟩ := hrel
    have hzr := hbel.size
    by_cases hlt : k < l.length
    · obtain ⟨x, hx⟩ : ∃ x, Hid (l[k]? = some x) := ⟨l[k], List.getElem?_eq_getElem _⟩
      have hAr := HA.out.below hbel
      obtain ⟨xd, hAd, _, _⟩ := hAr (by omega)
      subst hAd
      obtain ⟨hab, A', c', hat, _, h0, h1, h2, h3, h4⟩ := hAr.item hx.out
      have hc0 : Hid (A' = none → c' = 0) := by
        have e : w.cell? ⟨(xd.add (k * 5)).block, (xd.add (k * 5)).off + 4, none⟩ = some (.slice A' x.attrs.length c') := by
          rw [← h4]; exact (hbel.cell (by show (xd.add _).block < _; rw [block_of_add]; exact hab)).symm
        exact HNIL.out xd rfl k x A' c' hx.out e
      unfold strV at h2 h3
      have hal := (HS2.out k x hx.out).2.2.1
      have HAT := Lib.hid (hat.more hzr)
      clear hat hAr
      have hlt' : (k : Int) < l.length := by omega
      have htk : l.take (k + 1) = l.take k ++ [x] := by rw [List.take_add_one, hx.out]; rfl
      have HTK := Lib.hid htk
      clear htk
      obtain ⟨W1, hW1⟩ : ∃ W1, Hid (W1 = wr.alloc (.cells #[.int .i64 x.level, .int .i64 x.kind, .string ⟨x.name.toArray⟩, .string ⟨x.text.toArray⟩, .slice A' x.attrs.length c'] 30)) := ⟨_, rfl⟩
      obtain ⟨hbW, hzW, hcs⟩ := box_cells (wr := wr) (W1 := W1) (x := x) (A' := A') (c' := c') (.inl hW1.out)
      have HCS := Lib.hid hcs
      have hzW' : wr.heap.size < W1.heap.size := by omega
      have HZW := Lib.hid hzW
      clear hcs hzW
      obtain ⟨i0, hi0, hz0, hz1, hz2⟩ := info_parts infoAttr
      have hown0 : (W1.alloc (.cells #[] 33)).ownsRow W1.heap.size 33 2 (.slice (some ⟨W1.heap.size, 0, none⟩) 0 0) 0 [] :=
        ⟨by simp, .inr ⟨W1.heap.size, 0, #[], rfl, Nat.le_refl _, heap_alloc_new W1 _, Nat.le_refl _, by decide, by simp, by simp⟩⟩
      have HOWN0 := Lib.hid hown0
      have hb1 : Below W1.heap.size W1 (W1.alloc (.cells #[] 33)) := (Below.refl _ _).alloc (Nat.le_refl _) _
      clear hown0
      have hpost : Hid (∀ A2 c2 w3, AttrsOwn w3 W1.heap.size A2 c2 x.attrs → Below W1.heap.size W1 w3 → Below wr.heap.size wr (w3.setCell ⟨wr.heap.size, 4, none⟩ (.slice A2 x.attrs.length c2)) ∧ wr.heap.size < (w3.setCell ⟨wr.heap.size, 4, none⟩ (.slice A2 x.attrs.length c2)).heap.size ∧
          (∀ s ∈ S ++ [(x, A2, c2)], AttrsOwn (w3.setCell ⟨wr.heap.size, 4, none⟩ (.slice A2 x.attrs.length c2)) w.heap.size s.2.1 s.2.2 s.1.attrs) ∧ (w3.setCell ⟨wr.heap.size, 4, none⟩ (.slice A2 x.attrs.length c2)).ownsRow w.heap.size 30 5 (.slice ad m cp) m (S.flatMap cellsI)) := by
        intro A2 c2 w3 hcl hb3
        have hz3 := hb3.size
        have hbb : Below wr.heap.size wr (w3.setCell ⟨wr.heap.size, 4, none⟩ (.slice A2 x.attrs.length c2)) := (hbW.trans (hb3.mono (Nat.le_of_lt hzW'))).setCell (Nat.le_refl _) _
        refine ⟨hbb, by simp; omega, fun s hs => ?_, ?_⟩
        · rcases List.mem_append.1 hs with h | h
          · exact (hattr.out s h).keepB hbb
          · simp at h; subst h
            exact own_base (ownsRow_setCell_below hcl (by show wr.heap.size < _; exact hzW') _) (by omega)
        · rw [← hm.out]; exact hown.out.keepB hbb
      have rel4 : Hid (∀ A2 c2 w3 a4 c4 w4, (∀ s ∈ S ++ [(x, A2, c2)], AttrsOwn w3 w.heap.size s.2.1 s.2.2 s.1.attrs) → w3.ownsRow w.heap.size 30 5 (.slice ad m cp) m (S.flatMap cellsI) → w4.ownsRow w.heap.size 30 5 (.slice a4 (m + 1) c4) (m + 1) (S.flatMap cellsI ++ cellsI (x, A2, c2)) → (w3.alloc (.cells (cellsI (x, A2, c2)).toArray 30)).grownBy w4 (Value.slice ad m cp).ownBlock →
          Hid ((S ++ [(x, A2, c2)]).length = m + 1) ∧ Hid ((S ++ [(x, A2, c2)]).map (·.1) = l.take (k + 1)) ∧ Hid (ItemsOwn w4 w.heap.size a4 c4 (S ++ [(x, A2, c2)])) ∧ Hid (∀ s ∈ S ++ [(x, A2, c2)], AttrsOwn w4 w.heap.size s.2.1 s.2.2 s.1.attrs)) := by
        intro A2 c2 w3 a4 c4 w4 hat3 hown3 hown4 hg4
        refine ⟨by show _ = _; rw [List.length_append, hm.out]; rfl, ?_, ?_, fun s hs => own_grown (World.ownsRow.alloc (hat3 s hs) _) (World.ownsRow.alloc hown3 _) (by decide) hg4⟩
        · show _ = _
          rw [List.map_append, hmap.out, HTK.out]; rfl
        · show World.ownsRow _ _ _ _ _ _ _
          rw [List.length_append, List.flatMap_append, hm.out]
          simpa using hown4
      cases A' with
      | none =>
        have hcz := hc0.out rfl
        subst hcz
        have hn0 : x.attrs.length = 0 := by
          rcases Nat.eq_zero_or_pos x.attrs.length with h | h
          · exact h
          · obtain ⟨_, h, _⟩ := HAT.out h; cases h
        have hnil := List.eq_nil_of_length_eq_zero hn0
        have hcl : Hid (AttrsOwn (W1.alloc (.cells #[] 33)) W1.heap.size (some ⟨W1.heap.size, 0, none⟩) 0 x.attrs) := by
          unfold AttrsOwn; rw [hnil]; exact HOWN0.out
        have hnews : [Value.int .i64 x.level, .int .i64 x.kind, strV x.name, strV x.text, .slice (some ⟨W1.heap.size, 0, none⟩) 0 0] = cellsI (x, some ⟨W1.heap.size, 0, none⟩, 0) := by unfold cellsI; rw [hn0]
        have HNEWS := Lib.hid hnews
        have HN0 := Lib.hid hn0
        rw [hn0] at h4 hW1
        clear hn0 hnil hnews
        go_wp2_with (first | (at_builtin; rw [← hW1.out, ← HZW.out]; refine wpList_append_own_none rfl (.tmp 15) (.tmp 17) 28 rfl W1.heap.size 33 i0 2 Try.underlying28 hi0 _ 0 [] rfl HOWN0.out rfl ?_; obtain ⟨w3, hw3⟩ : ∃ w3, Hid (w3 = W1.alloc (.cells #[] 33)) := ⟨_, rfl⟩; rw [← hw3.out] at hb1 hcl ⊢; obtain ⟨⟨b0, b1, b2, b3, b4⟩, bf⟩ := HCS.out w3 hb1; have bf4 := bf 4; rw [HN0.out] at b4; clear bf; obtain ⟨q1, q2, q3, q4⟩ := hpost.out _ _ w3 hcl hb1; rw [HN0.out] at q1 q2 q3 q4; have hq2 := Nat.le_trans hzr (Nat.le_of_lt q2); have HQ := Lib.hid (show _ ∧ _ ∧ _ from ⟨q1, q3, q4⟩); clear q1 q2 q3 q4) | (at_builtin; refine appendS rfl (.tmp 20) (.tmp 22) 22 rfl w.heap.size 30 (.agg #[.int .i64 0, .int .i64 0, .string ByteArray.empty, .string ByteArray.empty, .slice none 0 0]) 5 72 Try.underlying22 infoItem rfl (by decide) _ m _ [Value.int .i64 x.level, .int .i64 x.kind, strV x.name, strV x.text, .slice (some ⟨W1.heap.size, 0, none⟩) 0 0] rfl HQ.out.2.2 hq2 _ rfl (by simp) rfl (by rw [HNEWS.out]; exact cellsI_one _) (by omega) (by decide) ?_))
        intro a4 c4 w4 hown4 hb4 hz4 hg4
        rw [HNEWS.out] at hown4 hg4
        obtain ⟨r1, r2, r3, r4⟩ := rel4.out _ _ _ a4 c4 w4 HQ.out.2.1 HQ.out.2.2 hown4 hg4
        have hbb : Below w.heap.size w w4 := hbel.trans ((HQ.out.1.mono hzr).trans hb4)
        clear hown4 hg4
        go_wp2_with fail
        go_roundw
        case rel => exact ⟨k + 1, _, a4, c4, m + 1, by omega, by go_num, rfl, r1, by omega, r2, r3, r4, hbb⟩
        case measure => simp [intOf]; omega
      | some xa =>
        have hsrc : Hid (∀ j u, (x.attrs.flatMap cellsA)[j]? = some u → (W1.alloc (.cells #[] 33)).cell? (xa.add j) = some u) := fun j u hu => by
          have hj : 0 < x.attrs.length := by
            have := (List.getElem?_eq_some_iff.1 hu).1
            rw [flat_length cellsA 2 cellsA_length] at this; omega
          obtain ⟨_, e, hbx, _⟩ := HAT.out hj
          injection e with e; subst e
          rw [hb1.cell (by rw [block_of_add]; omega), hbW.cell (by rw [block_of_add]; exact hbx)]
          exact HAT.out.flat j u hu
        have hfl := Lib.hid (flat_length cellsA 2 cellsA_length x.attrs)
        go_wp2_with (at_builtin; rw [← hW1.out, ← HZW.out]; go_loud (refine wpList_append_own _ rfl (.tmp 15) (.tmp 17) 28 rfl W1.heap.size 33 i0 (.agg #[.string ByteArray.empty, .string ByteArray.empty]) 2 32 Try.underlying28 hi0 hz0 hz1 hz2 rfl (by decide) _ 0 [] rfl HOWN0.out xa x.attrs.length c' (x.attrs.flatMap cellsA) rfl hfl.out hsrc.out (cellsA_one x.attrs) (by unfold maxLen; omega) (by omega) (by simp) ?_))
        intro v' w3 hown' hg _
        have hown' : w3.ownsRow W1.heap.size 33 2 v' x.attrs.length (x.attrs.flatMap cellsA) := by simpa using hown'
        obtain ⟨A2, c2, rfl⟩ : ∃ A2 c2, v' = .slice A2 x.attrs.length c2 := by
          rcases hown'.2 with ⟨h1, h2⟩ | ⟨g, c, cur, hv, _⟩
          · exact ⟨none, 0, by rw [h2]; exact h1⟩
          · exact ⟨_, c, hv⟩
        have hb3 : Below W1.heap.size W1 w3 := hb1.grown hg (by simp) (fun k hk => (HOWN0.out.lt k hk).1)
        obtain ⟨q1, q2, q3, q4⟩ := hpost.out A2 c2 w3 hown' hb3
        have hq2 := Nat.le_trans hzr (Nat.le_of_lt q2)
        have HQ := Lib.hid (show _ ∧ _ ∧ _ from ⟨q1, q3, q4⟩)
        obtain ⟨⟨b0, b1, b2, b3, b4⟩, bf⟩ := HCS.out w3 hb3
        have bf4 := bf 4
        clear q1 q2 q3 q4 hown' hg bf h0 h1 h2 h3 h4
        go_wp2_with (at_builtin; go_loud (refine appendS rfl (.tmp 20) (.tmp 22) 22 rfl w.heap.size 30 (.agg #[.int .i64 0, .int .i64 0, .string ByteArray.empty, .string ByteArray.empty, .slice none 0 0]) 5 72 Try.underlying22 infoItem rfl (by decide) _ m _ (cellsI (x, A2, c2)) rfl HQ.out.2.2 hq2 _ rfl (by simp) (cellsI_length _) (cellsI_one _) (by omega) (by decide) ?_))
        intro a4 c4 w4 hown4 hb4 hz4 hg4
        obtain ⟨r1, r2, r3, r4⟩ := rel4.out _ _ _ a4 c4 w4 HQ.out.2.1 HQ.out.2.2 hown4 hg4
        have hbb : Below w.heap.size w w4 := hbel.trans ((HQ.out.1.mono hzr).trans hb4)
        clear hown4 hg4
        go_wp2_with fail
        go_roundw
        case rel => exact ⟨k + 1, _, a4, c4, m + 1, by omega, by go_num, rfl, r1, by omega, r2, r3, r4, hbb⟩
        case measure => simp [intOf]; omega
    · have hkk : k = l.length := by omega
      have hmapl : Hid (S.map (·.1) = l) := by show _ = _; rw [hmap.out, hkk, List.take_length]
      subst hkk
      have hml : m = l.length := by have := congrArg List.length hmapl.out; rw [List.length_map, hm.out] at this; exact this
      obtain ⟨w2, rfl⟩ : ∃ w2, w2 = wr := ⟨wr, rfl⟩
      have hgiven : Hid (ItemsAt w2 w2.heap.size ad l) := by
        have := ItemsOwn.at hown.out (fun s hs => ⟨(hattr.out s hs).at, (hattr.out s hs).cap⟩)
        rw [hmapl.out] at this; exact this
      obtain ⟨N, hN⟩ : ∃ N, Hid (normalL l = N) := ⟨_, rfl⟩
      subst hml
      clear hmap hlt hk hown hattr hmapl hm
      go_wp2_with fail
      refine (Normal_any l ad cp w2 hgiven.out HS.out N hN).mono ?_
      rintro e w3 ⟨⟨A3, c3, S3, rfl, hown3, hattr3, hmap3⟩, hb3⟩
      have hz3 := hb3.size
      obtain ⟨B2, hB2⟩ : ∃ B2, Hid (B2 = w2.heap.size) := ⟨_, rfl⟩
      rw [← hB2.out] at hown3 hattr3 hb3
      obtain ⟨n3, hn3⟩ : ∃ n3, Hid (S3.length = n3) := ⟨_, rfl⟩
      have HOWN3 := Lib.hid hown3
      have hsm3 := (normal_small HS.out)
      rw [hN.out, ← hmap3] at hsm3
      have hrow3 : Hid (∀ s ∈ S3, RowOk w3 B2 s.2.1 s.1.attrs.length ∧ s.1.attrs.length ≤ 1000000000) := fun s hs => ⟨(hattr3 s hs).row, (hsm3.mem s.1 (List.mem_map_of_mem hs)).2.2.1⟩
      rw [hn3.out]
      have hS3l : n3 ≤ 1000000000 := by
        have h1 := (normal_small HS.out).1
        rw [hN.out, ← hmap3, List.length_map, hn3.out] at h1; exact h1
      clear hown3 hattr3 hmap3 hsm3
      go_wp2_with fail
      go_loopw [29] (fun i wr => ∃ (k : Nat) (S : List Slot), k ≤ n3 ∧ i = .int .i64 k ∧ Hid (S.length = n3) ∧ Hid (ItemsOwn wr B2 A3 c3 S) ∧ Hid (∀ s ∈ S, RowOk wr B2 s.2.1 s.1.attrs.length ∧ s.1.attrs.length ≤ 1000000000) ∧ Below B2 w2 wr) (fun i _ => n3 - (intOf i).toNat)
      case atStart => exact ⟨0, S3, Nat.zero_le _, rfl, hn3, HOWN3, hrow3, hb3⟩
      case round =>
        obtain ⟨k, S, hk, rfl, hSl, hown, hrow, hbr⟩ := hrel
        by_cases hlt : k < n3
        · obtain ⟨s, hs⟩ : ∃ s, Hid (S[k]? = some s) := ⟨S[k]'(by rw [hSl.out]; exact hlt), List.getElem?_eq_getElem _⟩
          obtain ⟨g, hag, hgB, hgz, _, hgc⟩ := own_flat cellsI cellsI_length hown.out (by rw [hSl.out]; omega)
          obtain ⟨gd, hgd⟩ : ∃ gd : Addr, Hid (gd = ⟨g, 0, none⟩) := ⟨_, rfl⟩
          rw [← hgd.out] at hag hgc
          subst hag
          have pc2 := hgc k s 2 _ hs.out rfl
          have pc4 := hgc k s 4 _ hs.out rfl
          rw [add_plus _ _ _ (by decide)] at pc2 pc4
          unfold strV at pc2
          have ho := hown.out
          unfold ItemsOwn at ho
          rw [hgd.out, hSl.out] at ho
          have heq : ∀ j, (⟨(gd.add (k * 5)).block, (gd.add (k * 5)).off + j, none⟩ : Addr) = ⟨g, k * 5 + j, none⟩ := fun j => by rw [hgd.out, add_zero_block]
          have hfz : wr.frozen? ⟨(gd.add (k * 5)).block, (gd.add (k * 5)).off + 2, none⟩ = false := by rw [heq 2]; exact ho.frozenAt _
          have hlt' : (k : Int) < n3 := by omega
          obtain ⟨W1, hW1⟩ : ∃ W1, Hid (W1 = wr.setCell ⟨(gd.add (k * 5)).block, (gd.add (k * 5)).off + 2, none⟩ (.string ⟨[109, 105, 110, 101].toArray⟩)) := ⟨_, rfl⟩
          obtain ⟨S', hS'⟩ : ∃ S', Hid (S.set k (mine s) = S') := ⟨_, rfl⟩
          have hown1 : Hid (ItemsOwn W1 B2 (some gd) c3 S') := by
            show World.ownsRow _ _ _ _ _ _ _
            rw [hW1.out, heq 2, ← hS'.out, List.length_set, hSl.out, hgd.out, ← flat_set cellsI 5 cellsI_length S k 2 s (mine s) mineV hs.out (by decide) rfl]
            exact own_stored ho _ _
          have hSl' : Hid (S'.length = n3) := by show _ = _; rw [← hS'.out, List.length_set]; exact hSl.out
          have hs' : Hid (S'[k]? = some (mine s)) := by show _ = _; rw [← hS'.out, List.getElem?_set]; simp [hSl.out, hlt]
          have hrow1 : Hid (∀ s ∈ S', RowOk W1 B2 s.2.1 s.1.attrs.length ∧ s.1.attrs.length ≤ 1000000000) := fun y hy => by
            rw [← hS'.out] at hy
            rw [hW1.out, heq 2]
            rcases List.mem_or_eq_of_mem_set hy with h | h
            · exact ⟨((hrow.out y h).1).set _ _ _, (hrow.out y h).2⟩
            · subst h
              have hq := hrow.out s (List.mem_of_getElem? hs.out)
              exact ⟨hq.1.set _ _ _, hq.2⟩
          have hbr1 : Below B2 w2 W1 := by rw [hW1.out, heq 2]; exact hbr.setCell (by exact hgB) _
          obtain ⟨na, hna⟩ : ∃ na, Hid (s.1.attrs.length = na) := ⟨_, rfl⟩
          have hcell1 : Hid (∀ w', ItemsOwn w' B2 (some gd) c3 S' → w'.cell? ⟨(gd.add (k * 5)).block, (gd.add (k * 5)).off + 4, none⟩ = some (.slice s.2.1 na s.2.2)) := fun w' h => by
            obtain ⟨g', hg', _, _, _, hc'⟩ := own_flat cellsI cellsI_length h (by rw [hSl'.out]; omega)
            have := hc' k (mine s) 4 _ hs'.out rfl
            injection hg' with hg'
            rw [← hg', add_plus _ _ _ (by decide)] at this
            rw [← hna.out]; exact this
          have hnal : na ≤ 1000000000 := by rw [← hna.out]; exact (hrow.out s (List.mem_of_getElem? hs.out)).2
          rw [hna.out] at pc4
          have heq2 := heq 2
          have HEQ2 := Lib.hid heq2
          clear hgc ho heq heq2
          go_wp2_with fail
          rw [← hW1.out]
          go_loopw [42] (fun i wq => ∃ (j : Nat), j ≤ na ∧ i = .int .i64 j ∧ Hid (ItemsOwn wq B2 (some gd) c3 S') ∧ Hid (∀ s ∈ S', RowOk wq B2 s.2.1 s.1.attrs.length ∧ s.1.attrs.length ≤ 1000000000) ∧ Below B2 w2 wq) (fun i _ => na - (intOf i).toNat)
          case atStart => exact ⟨0, Nat.zero_le _, rfl, hown1, hrow1, hbr1⟩
          case round =>
            obtain ⟨j, hj, rfl, hownq, hrowq, hbq⟩ := hrel
            by_cases hjt : j < na
            · have hc4 := hcell1.out wr hownq.out
              have hrs := (hrowq.out (mine s) (List.mem_of_getElem? hs'.out)).1
              obtain ⟨ga, cur, hA2, hgaB, hheap, hcs⟩ := hrs (by show 0 < s.1.attrs.length; rw [hna.out]; omega)
              have hA2 : s.2.1 = some ⟨ga, 0, none⟩ := hA2
              have hcs : na * 2 ≤ cur.size := by rw [← hna.out]; exact hcs
              obtain ⟨xa, hxa⟩ : ∃ xa : Addr, Hid (xa = ⟨ga, 0, none⟩) := ⟨_, rfl⟩
              rw [hA2, ← hxa.out] at hc4
              have heqa : (⟨(xa.add (j * 2)).block, (xa.add (j * 2)).off + 1, none⟩ : Addr) = ⟨ga, j * 2 + 1, none⟩ := by rw [hxa.out, add_zero_block]
              have HEQA := Lib.hid heqa
              have hcu : wr.cell? ⟨(xa.add (j * 2)).block, (xa.add (j * 2)).off + 1, none⟩ = some (cur[j * 2 + 1]'(by omega)) := by
                rw [heqa, Lib.cell_of_heap hheap]; exact Array.getElem?_eq_getElem _
              have hfu : wr.frozen? ⟨(xa.add (j * 2)).block, (xa.add (j * 2)).off + 1, none⟩ = false := by
                rw [heqa]; exact Lib.frozen_of_heap hheap _
              obtain ⟨uu, hcu⟩ : ∃ uu, wr.cell? ⟨(xa.add (j * 2)).block, (xa.add (j * 2)).off + 1, none⟩ = some uu := ⟨_, hcu⟩
              have HHEAP := Lib.hid hheap
              have hjt' : (j : Int) < na := by omega
              clear heqa hheap hA2 pc2 pc4
              go_wp2_with fail
              rw [HEQA.out]
              go_roundw
              case rel =>
                refine ⟨j + 1, by omega, by go_num, own_set_other hownq.out HHEAP.out (by decide) _ _, fun y hy => ⟨((hrowq.out y hy).1).set _ _ _, (hrowq.out y hy).2⟩, hbq.setCell (by exact hgaB) _⟩
              case measure => simp [intOf]; omega
            · have hjn : j = na := by omega
              subst hjn
              clear pc2 pc4
              go_wp2_with fail
              go_roundw
              case rel => exact ⟨k + 1, S', by omega, by go_num, hSl', hownq, hrowq, hbq⟩
              case measure => simp [intOf]; omega
        · have hkn : k = n3 := by omega
          subst hkn
          have hgiv2 : Hid (ItemsAt wr wr.heap.size ad l) := by
            have h1 := hbr
            rw [hB2.out] at h1
            exact hgiven.out.later h1
          have hAl : Hid (ItemsAt wr wr.heap.size A l) := by
            have h1 := hbr
            rw [hB2.out] at h1
            exact HA.out.later (hbel.trans (h1.mono hzr))
          have hbww : Below w.heap.size w wr := by
            have h1 := hbr
            rw [hB2.out] at h1
            exact hbel.trans (h1.mono hzr)
          clear hlt hk
          go_wp2_with fail
          refine (alive5_any wr).mono ?_
          rintro e4 w4 ⟨rfl, hb4⟩
          go_wp2_with fail
          refine (RSame_any l l ad A cp c w4 (hgiv2.out.later hb4) (hAl.out.later hb4) HS.out.1 HS.out.1 true (by show _ = _; simp)).mono ?_
          rintro e5 w5 ⟨rfl, hb5⟩
          go_wp2_with fail
          go_ret
          exact ⟨rfl, hbww.trans ((hb4.mono hbww.size).trans (hb5.mono (Nat.le_trans hbww.size hb4.size)))⟩
end Go.Proofs.Ytiopijjlkmpikaa
