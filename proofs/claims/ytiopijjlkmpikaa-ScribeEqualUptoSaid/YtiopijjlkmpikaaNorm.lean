/-
  The walk of scribe.Normal.
-/
import Derived.Test.YtiopijjlkmpikaaClone
import Derived.Deep.RegionHeld3
import Derived.StillTailTactics
namespace Go.Proofs.Ytiopijjlkmpikaa
open Go.RowKit

/-- Items of the call's own, with their attributes. -/
structure NormPost (w : World) (N : List ItemD) (e : Ending) (w' : World) : Prop where
  out : ∃ A c S, e = .returned (.slice A S.length c) ∧ ItemsOwn w' w.heap.size A c S ∧ (∀ s ∈ S, AttrsOwn w' w.heap.size s.2.1 s.2.2 s.1.attrs) ∧ S.map (·.1) = N
  below : Below w.heap.size w w'

theorem AttrsOwn.keepB {w w' : World} {B : Nat} {A : Option Addr} {c : Nat} {l : List AttrD} (h : AttrsOwn w B A c l) (hb : Below w.heap.size w w') : AttrsOwn w' B A c l := own_below h hb
theorem ItemsOwn.keepB {w w' : World} {B : Nat} {A : Option Addr} {c : Nat} {S : List Slot} (h : ItemsOwn w B A c S) (hb : Below w.heap.size w w') : ItemsOwn w' B A c S := own_below h hb

theorem cellsI_one (s : Slot) : ∀ u ∈ cellsI s, u.oneCell' = true := by
  intro u hu
  simp [cellsI, strV] at hu
  rcases hu with rfl | rfl | rfl | rfl | rfl <;> rfl

theorem own_base {w : World} {B B' : Nat} {e : TypeId} {size : Nat} {v : Value} {n : Nat} {xs : List Value} (h : w.ownsRow B e size v n xs) (hB : B' ≤ B) : w.ownsRow B' e size v n xs := by
  refine ⟨h.1, ?_⟩
  rcases h.2 with h | ⟨g, cap, cur, h1, h2, h3⟩
  · exact .inl h
  · exact .inr ⟨g, cap, cur, h1, by omega, h3⟩

theorem add_plus (ad : Addr) (a j : Nat) (hj : j ≠ 0) : ad.add (a + j) = ⟨(ad.add a).block, (ad.add a).off + j, none⟩ := by
  rw [← add_of_add]
  generalize ad.add a = b
  unfold Addr.add
  rw [if_neg hj]

/-- The cells of an item that lies in a block of its own. -/
theorem box_cells {wr W1 : World} {x : ItemD} {A' : Option Addr} {c' : Nat} (h : W1 = wr.alloc (.cells #[.int .i64 x.level, .int .i64 x.kind, .string ⟨x.name.toArray⟩, .string ⟨x.text.toArray⟩, .slice A' x.attrs.length c'] 30) ∨ W1 = (wr.alloc (.cells #[.int .i64 x.level, .int .i64 x.kind, .string ⟨x.name.toArray⟩, .string ⟨x.text.toArray⟩, .slice A' x.attrs.length c'] 30)).drew) :
    Below wr.heap.size wr W1 ∧ W1.heap.size = wr.heap.size + 1 ∧ ∀ w', Below W1.heap.size W1 w' → (w'.cell? ⟨wr.heap.size, 0, none⟩ = some (.int .i64 x.level) ∧ w'.cell? ⟨wr.heap.size, 1, none⟩ = some (.int .i64 x.kind) ∧ w'.cell? ⟨wr.heap.size, 2, none⟩ = some (.string ⟨x.name.toArray⟩) ∧ w'.cell? ⟨wr.heap.size, 3, none⟩ = some (.string ⟨x.text.toArray⟩) ∧ w'.cell? ⟨wr.heap.size, 4, none⟩ = some (.slice A' x.attrs.length c')) ∧ ∀ j, w'.frozen? ⟨wr.heap.size, j, none⟩ = false := by
  have hz : W1.heap.size = wr.heap.size + 1 := by rcases h with rfl | rfl <;> simp
  have hb : Below wr.heap.size wr W1 := by
    rcases h with rfl | rfl
    · exact (Below.refl _ wr).alloc (Nat.le_refl _) _
    · exact ((Below.refl _ wr).alloc (Nat.le_refl _) _).drew
  refine ⟨hb, hz, fun w' hb' => ⟨?_, fun j => ?_⟩⟩
  · have key : ∀ j u, (#[.int .i64 x.level, .int .i64 x.kind, .string ⟨x.name.toArray⟩, .string ⟨x.text.toArray⟩, .slice A' x.attrs.length c'] : Array Value)[j]? = some u → w'.cell? ⟨wr.heap.size, j, none⟩ = some u := fun j u hu => by
      rw [hb'.cell (p := ⟨wr.heap.size, j, none⟩) (by rw [hz]; exact Nat.lt_succ_self _)]
      have hj := (Array.getElem?_eq_some_iff.1 hu).1
      rcases h with rfl | rfl
      · rw [World.cell?_alloc_at _ _ _ _ rfl]; exact hu
      · show (wr.alloc _).cell? _ = _
        rw [World.cell?_alloc_at _ _ _ _ rfl]; exact hu
    exact ⟨key 0 _ rfl, key 1 _ rfl, key 2 _ rfl, key 3 _ rfl, key 4 _ rfl⟩
  · rw [hb'.frozen (p := ⟨wr.heap.size, j, none⟩) (by rw [hz]; exact Nat.lt_succ_self _)]
    rcases h with rfl | rfl
    · exact frozen_of_row _ _ j _ _ (heap_alloc_new wr _)
    · exact frozen_of_row (wr.alloc _) _ j _ _ (heap_alloc_new wr _)


set_option maxRecDepth 100000 in
set_option maxHeartbeats 4000000 in
theorem Normal_any (l : List ItemD) (A : Option Addr) (c : Nat) (w : World) (hA : ItemsAt w w.heap.size A l) (hs : SmallDoc l) (N : List ItemD) (hN : Hid (normalL l = N)) :
    Calls Try.prog 11 #[.slice A l.length c] w (NormPost w N) := by
  obtain ⟨⟨hs1, hs2⟩, hs3⟩ := hs
  have HS := Lib.hid hs2
  have HT := Lib.hid hs3
  have HA := Lib.hid hA
  clear hs2 hA hs3
  have hN0 : Hid ((l.drop 0).foldl nstep (([] : List Slot).map (·.1)) = N) := hN
  clear hN
  go_enter Try.func11, Try.ntmps11
  go_wp2_with fail
  go_loopw [3, 9] (fun o i wr => ∃ (k : Nat) (S : List Slot) (ad : Option Addr) (cp m : Nat), k ≤ l.length ∧ i = .int .i64 k ∧ o = .slice ad m cp ∧ Hid (S.length = m) ∧ m ≤ k ∧ Hid (∀ s ∈ S, s.1.text.length ≤ textSum (l.take k)) ∧ Hid (ItemsOwn wr w.heap.size ad cp S) ∧ Hid (∀ s ∈ S, AttrsOwn wr w.heap.size s.2.1 s.2.2 s.1.attrs) ∧
      Hid ((l.drop k).foldl nstep (S.map (·.1)) = N) ∧ Below w.heap.size w wr) (fun _ i _ => l.length - (intOf i).toNat)
  case atStart => exact ⟨0, [], none, 0, 0, Nat.zero_le _, rfl, rfl, rfl, Nat.le_refl _, (fun _ h => absurd h List.not_mem_nil : ∀ s ∈ ([] : List Slot), s.1.text.length ≤ textSum (l.take 0)), World.ownsRow_nil _ _ _ _, (fun _ h => absurd h List.not_mem_nil : ∀ s ∈ ([] : List Slot), AttrsOwn w w.heap.size s.2.1 s.2.2 s.1.attrs), hN0, Below.refl _ _⟩
  case round =>
    obtain ⟨k, S, ad, cp, m, hk, rfl, rfl, hm, hmk, htx, hown, hattr, hin, hbel⟩ := hrel
    have hzr := hbel.size
    by_cases hlt : k < l.length
    · obtain ⟨x, hx⟩ : ∃ x, Hid (l[k]? = some x) := ⟨l[k], List.getElem?_eq_getElem _⟩
      have hAr := HA.out.below hbel
      obtain ⟨xd, hAd, _, _⟩ := hAr (by omega)
      subst hAd
      obtain ⟨hab, A', c', hat, _, h0, h1, h2, h3, h4⟩ := hAr.item hx.out
      unfold strV at h2 h3
      have hab1 : (xd.add (k * 5)).block < wr.heap.size := by rw [block_of_add]; omega
      have HAT := Lib.hid (hat.more hzr)
      clear hat hAr
      have hsx := Lib.hid (HS.out k x hx.out)
      have hlt' : (k : Int) < l.length := by omega
      have hin' := hin.out
      rw [drop_cons hx.out, List.foldl_cons] at hin'
      clear hin
      by_cases hk2 : x.kind = 2
      · have t1 : (x.kind != 2) = false := by simp [hk2]
        by_cases ht0 : x.text = []
        · -- a text without a byte
          have t2 : (x.text == []) = true := by simp [ht0]
          rw [nstep_void hk2 ht0] at hin'
          have HIN := Lib.hid hin'
          have htx' : Hid (∀ s ∈ S, s.1.text.length ≤ textSum (l.take (k + 1))) := fun s hs => by have := htx.out s hs; rw [textSum_take hx.out]; omega
          clear hin' hk2 ht0
          go_wp2_with fail
          go_roundw
          case rel => exact ⟨k + 1, S, ad, cp, m, by omega, by go_num, rfl, hm, by omega, htx', hown.out.alloc _, fun s hs => (hattr.out s hs).alloc _, HIN, hbel.alloc hzr _⟩
          case measure => simp [intOf]; omega
        · have t2 : (x.text == []) = false := by simp [ht0]
          by_cases hm0 : m = 0
          · have HIN : Hid (List.foldl nstep (S.map (·.1) ++ [x]) (l.drop (k + 1)) = N) := by
              show _ = _
              have hSn : S = [] := List.eq_nil_of_length_eq_zero (by rw [hm.out]; exact hm0)
              rw [← hin', nstep_app (fun h => ht0 h.2) (fun p hp => by rw [hSn] at hp; cases hp)]
            have d1 : decide ((0 : Int) ≤ (m : Int) - 1) = false := by simp; omega
            have d2 : decide ((1 : Int) ≤ (m : Int)) = false := by simp; omega
            have d3 : decide (1 ≤ m) = false := by simp; omega
            clear hin' hk2 ht0 hm0
            go_wp2_with fail
            refine wp_region_held_drew (S := fun _ => True) (by kernel_rfl) trivial (fun hHeld => ?_)
            refine wpAnyH_take (i := 0) (oi := ⟨_, _, _, _, _, _⟩) (v := ?_) rfl (by kernel_rfl) (by kernel_rfl) (by kernel_rfl) (fun _ _ _ h => h) (Or.inl ⟨by rfl, ?_⟩) (by assumption) ?_
            rotate_left
            · (intro wS hSw; (try dsimp only at hSw); go_simp); all_goals with_reducible rfl
            try simp only [Act.put, List.setIfInBounds_toArray, List.set_cons_zero, List.set_cons_succ]
            refine wpAnyH_take (i := 1) (oi := ⟨_, _, _, _, _, _⟩) (v := ?_) rfl (by kernel_rfl) (by kernel_rfl) (by kernel_rfl) (fun _ _ _ h => h) (Or.inl ⟨by rfl, ?_⟩) (by assumption) ?_
            rotate_left
            · (intro wS hSw; (try dsimp only at hSw); go_simp); all_goals with_reducible rfl
            try simp only [Act.put, List.setIfInBounds_toArray, List.set_cons_zero, List.set_cons_succ]
            refine wpAnyH_take (i := 2) (oi := ⟨_, _, _, _, _, _⟩) (v := ?_) rfl (by kernel_rfl) (by kernel_rfl) (by kernel_rfl) (fun _ _ _ h => h) (Or.inl ⟨by rfl, ?_⟩) (by assumption) ?_
            rotate_left
            · (intro wS hSw; (try dsimp only at hSw); go_simp); all_goals with_reducible rfl
            try simp only [Act.put, List.setIfInBounds_toArray, List.set_cons_zero, List.set_cons_succ]
            refine wpAnyH_take (i := 3) (oi := ⟨_, _, _, _, _, _⟩) (v := undef) rfl (by kernel_rfl) (by kernel_rfl) (by kernel_rfl) (fun _ _ _ h => h) (Or.inr ⟨by rfl, rfl⟩) (by assumption) ?_
            try simp only [Act.put, List.setIfInBounds_toArray, List.set_cons_zero, List.set_cons_succ]
            refine wpAnyH_take (i := 4) (oi := ⟨_, _, _, _, _, _⟩) (v := undef) rfl (by kernel_rfl) (by kernel_rfl) (by kernel_rfl) (fun _ _ _ h => h) (Or.inr ⟨by rfl, rfl⟩) (by assumption) ?_
            try simp only [Act.put, List.setIfInBounds_toArray, List.set_cons_zero, List.set_cons_succ]
            refine wpAnyH_take (i := 5) (oi := ⟨_, _, _, _, _, _⟩) (v := undef) rfl (by kernel_rfl) (by kernel_rfl) (by kernel_rfl) (fun _ _ _ h => h) (Or.inr ⟨by rfl, rfl⟩) (by assumption) ?_
            try simp only [Act.put, List.setIfInBounds_toArray, List.set_cons_zero, List.set_cons_succ]
            refine wpAnyH_take (i := 6) (oi := ⟨_, _, _, _, _, _⟩) (v := undef) rfl (by kernel_rfl) (by kernel_rfl) (by kernel_rfl) (fun _ _ _ h => h) (Or.inr ⟨by rfl, rfl⟩) (by assumption) ?_
            try simp only [Act.put, List.setIfInBounds_toArray, List.set_cons_zero, List.set_cons_succ]
            refine wpAnyH_take (i := 7) (oi := ⟨_, _, _, _, _, _⟩) (v := undef) rfl (by kernel_rfl) (by kernel_rfl) (by kernel_rfl) (fun _ _ _ h => h) (Or.inr ⟨by rfl, rfl⟩) (by assumption) ?_
            try simp only [Act.put, List.setIfInBounds_toArray, List.set_cons_zero, List.set_cons_succ]
            refine wpAnyH_take (i := 8) (oi := ⟨_, _, _, _, _, _⟩) (v := undef) rfl (by kernel_rfl) (by kernel_rfl) (by kernel_rfl) (fun _ _ _ h => h) (Or.inr ⟨by rfl, rfl⟩) (by assumption) ?_
            try simp only [Act.put, List.setIfInBounds_toArray, List.set_cons_zero, List.set_cons_succ]
            refine wpAnyH_take (i := 9) (oi := ⟨_, _, _, _, _, _⟩) (v := ?_) rfl (by kernel_rfl) (by kernel_rfl) (by kernel_rfl) (fun _ _ _ h => h) (Or.inl ⟨by rfl, ?_⟩) (by assumption) ?_
            rotate_left
            · (intro wS hSw; (try dsimp only at hSw); go_simp); all_goals with_reducible rfl
            try simp only [Act.put, List.setIfInBounds_toArray, List.set_cons_zero, List.set_cons_succ]
            refine wpAnyH_take (i := 10) (oi := ⟨_, _, _, _, _, _⟩) (v := ?_) rfl (by kernel_rfl) (by kernel_rfl) (by kernel_rfl) (fun _ _ _ h => h) (Or.inl ⟨by rfl, ?_⟩) (by assumption) ?_
            rotate_left
            · (intro wS hSw; (try dsimp only at hSw); go_simp); all_goals with_reducible rfl
            try simp only [Act.put, List.setIfInBounds_toArray, List.set_cons_zero, List.set_cons_succ]
            refine wpAnyH_take (i := 11) (oi := ⟨_, _, _, _, _, _⟩) (v := undef) rfl (by kernel_rfl) (by kernel_rfl) (by kernel_rfl) (fun _ _ _ h => h) (Or.inr ⟨by rfl, rfl⟩) (by assumption) ?_
            try simp only [Act.put, List.setIfInBounds_toArray, List.set_cons_zero, List.set_cons_succ]
            refine wpAnyH_take (i := 12) (oi := ⟨_, _, _, _, _, _⟩) (v := undef) rfl (by kernel_rfl) (by kernel_rfl) (by kernel_rfl) (fun _ _ _ h => h) (Or.inr ⟨by rfl, rfl⟩) (by assumption) ?_
            try simp only [Act.put, List.setIfInBounds_toArray, List.set_cons_zero, List.set_cons_succ]
            refine wpAnyH_take (i := 13) (oi := ⟨_, _, _, _, _, _⟩) (v := undef) rfl (by kernel_rfl) (by kernel_rfl) (by kernel_rfl) (fun _ _ _ h => h) (Or.inr ⟨by rfl, rfl⟩) (by assumption) ?_
            try simp only [Act.put, List.setIfInBounds_toArray, List.set_cons_zero, List.set_cons_succ]
            refine wpAnyH_take (i := 14) (oi := ⟨_, _, _, _, _, _⟩) (v := undef) rfl (by kernel_rfl) (by kernel_rfl) (by kernel_rfl) (fun _ _ _ h => h) (Or.inr ⟨by rfl, rfl⟩) (by assumption) ?_
            try simp only [Act.put, List.setIfInBounds_toArray, List.set_cons_zero, List.set_cons_succ]
            refine wpAnyH_take (i := 15) (oi := ⟨_, _, _, _, _, _⟩) (v := undef) rfl (by kernel_rfl) (by kernel_rfl) (by kernel_rfl) (fun _ _ _ h => h) (Or.inr ⟨by rfl, rfl⟩) (by assumption) ?_
            try simp only [Act.put, List.setIfInBounds_toArray, List.set_cons_zero, List.set_cons_succ]
            refine wpAnyH_take (i := 16) (oi := ⟨_, _, _, _, _, _⟩) (v := undef) rfl (by kernel_rfl) (by kernel_rfl) (by kernel_rfl) (fun _ _ _ h => h) (Or.inr ⟨by rfl, rfl⟩) (by assumption) ?_
            try simp only [Act.put, List.setIfInBounds_toArray, List.set_cons_zero, List.set_cons_succ]
            refine wpAnyH_take (i := 17) (oi := ⟨_, _, _, _, _, _⟩) (v := undef) rfl (by kernel_rfl) (by kernel_rfl) (by kernel_rfl) (fun _ _ _ h => h) (Or.inr ⟨by rfl, rfl⟩) (by assumption) ?_
            try simp only [Act.put, List.setIfInBounds_toArray, List.set_cons_zero, List.set_cons_succ]
            refine wpAnyH_take (i := 18) (oi := ⟨_, _, _, _, _, _⟩) (v := undef) rfl (by kernel_rfl) (by kernel_rfl) (by kernel_rfl) (fun _ _ _ h => h) (Or.inr ⟨by rfl, rfl⟩) (by assumption) ?_
            try simp only [Act.put, List.setIfInBounds_toArray, List.set_cons_zero, List.set_cons_succ]
            refine wpAnyH_take (i := 19) (oi := ⟨_, _, _, _, _, _⟩) (v := ?_) rfl (by kernel_rfl) (by kernel_rfl) (by kernel_rfl) (fun _ _ _ h => h) (Or.inl ⟨by rfl, ?_⟩) (by assumption) ?_
            rotate_left
            · (intro wS hSw; (try dsimp only at hSw); go_simp); all_goals with_reducible rfl
            try simp only [Act.put, List.setIfInBounds_toArray, List.set_cons_zero, List.set_cons_succ]
            refine wpAnyH_take (i := 20) (oi := ⟨_, _, _, _, _, _⟩) (v := ?_) rfl (by kernel_rfl) (by kernel_rfl) (by kernel_rfl) (fun _ _ _ h => h) (Or.inl ⟨by rfl, ?_⟩) (by assumption) ?_
            rotate_left
            · (intro wS hSw; (try dsimp only at hSw); go_simp); all_goals with_reducible rfl
            try simp only [Act.put, List.setIfInBounds_toArray, List.set_cons_zero, List.set_cons_succ]
            refine wpAnyH_done (by kernel_rfl) ?_ _
            clear hHeld d1 d2 d3
            go_wp2_with fail
            obtain ⟨W1, hW1⟩ : ∃ W1, Hid (W1 = (wr.alloc (.cells #[.int .i64 x.level, .int .i64 x.kind, .string ⟨x.name.toArray⟩, .string ⟨x.text.toArray⟩, .slice A' x.attrs.length c'] 30)).drew) := ⟨_, rfl⟩
            obtain ⟨hbW, hzW, hcs⟩ := box_cells (wr := wr) (W1 := W1) (x := x) (A' := A') (c' := c') (.inr hW1.out)
            have HCS := Lib.hid hcs
            have HZW := Lib.hid hzW
            have hzW' : wr.heap.size < W1.heap.size := by omega
            obtain ⟨⟨b0, b1, b2, b3, b4⟩, bf⟩ := hcs W1 (Below.refl _ _)
            have bf4 := bf 4
            clear hcs hzW bf h0 h1 h2 h3 h4
            rw [← hW1.out]
            go_wp2_with fail
            refine (Clone_any x.attrs A' c' _ ((HAT.out.below hbW).more (Nat.le_of_lt hzW')) hsx.out.2.2.1).mono ?_
            rintro e w2 ⟨A2, c2, rfl, hcl, hb2⟩
            have HCL := Lib.hid hcl
            clear hcl b0 b1 b2 b3 b4 bf4
            obtain ⟨⟨b0, b1, b2, b3, b4⟩, bf⟩ := HCS.out w2 hb2
            have bf4 := bf 4
            have hz2 := hb2.size
            clear bf
            obtain ⟨W3, hW3⟩ : ∃ W3, Hid (W3 = w2.setCell ⟨wr.heap.size, 4, none⟩ (.slice A2 x.attrs.length c2)) := ⟨_, rfl⟩
            have hb3 : Below wr.heap.size wr W3 := by rw [hW3.out]; exact (hbW.trans (hb2.mono (Nat.le_of_lt hzW'))).setCell (Nat.le_refl _) _
            have hz3 : wr.heap.size < W3.heap.size := by rw [hW3.out]; simp; omega
            have hown3 : W3.ownsRow w.heap.size 30 5 (.slice ad m cp) m (S.flatMap cellsI) := by rw [← hm.out]; exact hown.out.keepB hb3
            have hattr3 : Hid (∀ s ∈ S ++ [(x, A2, c2)], AttrsOwn W3 w.heap.size s.2.1 s.2.2 s.1.attrs) := fun s hs => by
              rcases List.mem_append.1 hs with h | h
              · exact (hattr.out s h).keepB hb3
              · simp at h; subst h
                rw [hW3.out]
                exact own_base (ownsRow_setCell_below HCL.out (by show wr.heap.size < _; exact hzW') _) (by omega)
            go_wp2_with (at_builtin; rw [← hW3.out]; go_loud (refine appendS rfl (.tmp 59) (.tmp 61) 22 rfl w.heap.size 30 (.agg #[.int .i64 0, .int .i64 0, .string ByteArray.empty, .string ByteArray.empty, .slice none 0 0]) 5 72 Try.underlying22 infoItem rfl (by decide) _ m _ (cellsI (x, A2, c2)) rfl hown3 (by omega) _ rfl (by rw [hW3.out]; simp) (cellsI_length _) (cellsI_one _) (by omega) (by decide) ?_))
            intro a4 c4 w4 hown4 hb4 hz4 hg4
            have hown4' : ItemsOwn w4 w.heap.size a4 c4 (S ++ [(x, A2, c2)]) := by
              unfold ItemsOwn
              rw [List.length_append, List.flatMap_append, hm.out]
              simpa using hown4
            have htx4 : Hid (∀ s ∈ S ++ [(x, A2, c2)], s.1.text.length ≤ textSum (l.take (k + 1))) := fun s hs => by
              rw [textSum_take hx.out]
              rcases List.mem_append.1 hs with h | h
              · have := htx.out s h; omega
              · simp at h; subst h; show x.text.length ≤ _; omega
            have hattr4 : Hid (∀ s ∈ S ++ [(x, A2, c2)], AttrsOwn w4 w.heap.size s.2.1 s.2.2 s.1.attrs) := fun s hs => own_grown (World.ownsRow.alloc (hattr3.out s hs) _) (World.ownsRow.alloc hown3 _) (by decide) hg4
            have hb4' : Below w.heap.size w w4 := hbel.trans ((hb3.mono hzr).trans hb4)
            have HIN4 : Hid (List.foldl nstep ((S ++ [(x, A2, c2)]).map (·.1)) (l.drop (k + 1)) = N) := by
              show _ = _
              rw [List.map_append]
              exact HIN.out
            clear hown4 hg4
            go_wp2_with fail
            go_roundw
            case rel => exact ⟨k + 1, S ++ [(x, A2, c2)], a4, c4, m + 1, by omega, by go_num, rfl, by show _ = _; rw [List.length_append, hm.out]; rfl, by omega, htx4, hown4', hattr4, HIN4, hb4'⟩
            case measure => simp [intOf]; omega
          · have hm1 : 0 < m := by omega
            have hlast : S[m - 1]? = some (S[m - 1]'(by rw [hm.out]; omega)) := List.getElem?_eq_getElem _
            obtain ⟨s, hs⟩ : ∃ s, Hid (S[m - 1]? = some s) := ⟨_, hlast⟩
            obtain ⟨g, hag, _, hgz, _, hgc⟩ := own_flat cellsI cellsI_length hown.out (by rw [hm.out]; exact hm1)
            obtain ⟨gd, hgd⟩ : ∃ gd : Addr, Hid (gd = ⟨g, 0, none⟩) := ⟨_, rfl⟩
            rw [← hgd.out] at hag hgc
            subst hag
            have hgb : gd.block < wr.heap.size := by rw [hgd.out]; exact hgz
            have pc0 := hgc (m - 1) s 0 _ hs.out rfl
            have pc1 := hgc (m - 1) s 1 _ hs.out rfl
            have pc3 := hgc (m - 1) s 3 _ hs.out rfl
            rw [add_plus _ _ _ (by decide)] at pc1 pc3
            rw [Nat.add_zero] at pc0
            have hprev : (S.map (·.1))[(S.map (·.1)).length - 1]? = some s.1 := by rw [List.length_map, hm.out, List.getElem?_map, hs.out]; rfl
            have d1 : decide ((0 : Int) ≤ (m : Int) - 1) = true := by simp; omega
            have d2 : decide ((1 : Int) ≤ (m : Int)) = true := by simp; omega
            have d3 : decide (1 ≤ m) = true := by simp; omega
            have i1 : (1 : Int) ≤ (m : Int) := by omega
            have i0 : (0 : Int) ≤ (m : Int) - 1 := by omega
            have i2 : (m : Int) - 1 < (m : Int) := by omega
            have kn : ((m : Int) - 1).toNat = m - 1 := by omega
            have HSS : Hid (∀ w', Below wr.heap.size wr w' → w'.cell? ⟨wr.heap.size, 0, none⟩ = some (.int .i64 x.level) → w'.cell? ⟨wr.heap.size, 3, none⟩ = some (.string ⟨x.text.toArray⟩) → (fun w' => w'.cell? (gd.add ((m - 1) * 5)) = some (.int .i64 s.1.level) ∧ w'.cell? ⟨(gd.add ((m - 1) * 5)).block, (gd.add ((m - 1) * 5)).off + 1, none⟩ = some (.int .i64 s.1.kind) ∧ w'.cell? ⟨(gd.add ((m - 1) * 5)).block, (gd.add ((m - 1) * 5)).off + 3, none⟩ = some (.string ⟨s.1.text.toArray⟩) ∧ w'.cell? ⟨wr.heap.size, 0, none⟩ = some (.int .i64 x.level) ∧ w'.cell? ⟨wr.heap.size, 3, none⟩ = some (.string ⟨x.text.toArray⟩)) w') := fun w' hb e0 e3 =>
              ⟨by rw [hb.cell (by rw [block_of_add]; exact hgb)]; exact pc0, by rw [hb.cell (by show (gd.add _).block < _; rw [block_of_add]; exact hgb)]; exact pc1, by rw [hb.cell (by show (gd.add _).block < _; rw [block_of_add]; exact hgb)]; exact pc3, e0, e3⟩
            have HW : Hid ((fun w' => w'.cell? (gd.add ((m - 1) * 5)) = some (.int .i64 s.1.level) ∧ w'.cell? ⟨(gd.add ((m - 1) * 5)).block, (gd.add ((m - 1) * 5)).off + 1, none⟩ = some (.int .i64 s.1.kind) ∧ w'.cell? ⟨(gd.add ((m - 1) * 5)).block, (gd.add ((m - 1) * 5)).off + 3, none⟩ = some (.string ⟨s.1.text.toArray⟩) ∧ w'.cell? ⟨wr.heap.size, 0, none⟩ = some (.int .i64 x.level) ∧ w'.cell? ⟨wr.heap.size, 3, none⟩ = some (.string ⟨x.text.toArray⟩)) (wr.alloc (.cells #[.int .i64 x.level, .int .i64 x.kind, .string ⟨x.name.toArray⟩, .string ⟨x.text.toArray⟩, .slice A' x.attrs.length c'] 30)).drew) := HSS.out _ ((Below.refl _ wr).alloc (Nat.le_refl _) _).drew (by show (wr.alloc _).cell? _ = _; rw [World.cell?_alloc_at _ _ _ _ rfl]; rfl) (by show (wr.alloc _).cell? _ = _; rw [World.cell?_alloc_at _ _ _ _ rfl]; rfl)
            clear pc0 pc1 pc3 hgc
            by_cases hj : s.1.kind = 2 ∧ s.1.level = x.level
            · obtain ⟨hj1, hj2⟩ := hj
              have d4 : (s.1.kind == 2) = true := by simp [hj1]
              have d5 : (s.1.level == x.level) = true := by simp [hj2]
              rw [nstep_join hprev hk2 ht0 hj1 hj2] at hin'
              have HIN := Lib.hid hin'
              clear hin' hj1 hj2 hk2 ht0 hprev hlast
              go_wp2_with fail
              refine wp_region_held_drew (S := fun w' => w'.cell? (gd.add ((m - 1) * 5)) = some (.int .i64 s.1.level) ∧ w'.cell? ⟨(gd.add ((m - 1) * 5)).block, (gd.add ((m - 1) * 5)).off + 1, none⟩ = some (.int .i64 s.1.kind) ∧ w'.cell? ⟨(gd.add ((m - 1) * 5)).block, (gd.add ((m - 1) * 5)).off + 3, none⟩ = some (.string ⟨s.1.text.toArray⟩) ∧ w'.cell? ⟨wr.heap.size, 0, none⟩ = some (.int .i64 x.level) ∧ w'.cell? ⟨wr.heap.size, 3, none⟩ = some (.string ⟨x.text.toArray⟩)) (by kernel_rfl) HW.out (fun hHeld => ?_)
              refine wpAnyH_take (i := 0) (oi := ⟨_, _, _, _, _, _⟩) (v := ?_) rfl (by kernel_rfl) (by kernel_rfl) (by kernel_rfl) (fun _ _ _ h => h) (Or.inl ⟨by rfl, ?_⟩) (by assumption) ?_
              rotate_left
              · (intro wS hSw; (try dsimp only at hSw); go_simp); all_goals with_reducible rfl
              try simp only [Act.put, List.setIfInBounds_toArray, List.set_cons_zero, List.set_cons_succ]
              refine wpAnyH_take (i := 1) (oi := ⟨_, _, _, _, _, _⟩) (v := ?_) rfl (by kernel_rfl) (by kernel_rfl) (by kernel_rfl) (fun _ _ _ h => h) (Or.inl ⟨by rfl, ?_⟩) (by assumption) ?_
              rotate_left
              · (intro wS hSw; (try dsimp only at hSw); go_simp); all_goals with_reducible rfl
              try simp only [Act.put, List.setIfInBounds_toArray, List.set_cons_zero, List.set_cons_succ]
              refine wpAnyH_take (i := 2) (oi := ⟨_, _, _, _, _, _⟩) (v := ?_) rfl (by kernel_rfl) (by kernel_rfl) (by kernel_rfl) (fun _ _ _ h => h) (Or.inl ⟨by rfl, ?_⟩) (by assumption) ?_
              rotate_left
              · (intro wS hSw; (try dsimp only at hSw); go_simp); all_goals with_reducible rfl
              try simp only [Act.put, List.setIfInBounds_toArray, List.set_cons_zero, List.set_cons_succ]
              refine wpAnyH_take (i := 3) (oi := ⟨_, _, _, _, _, _⟩) (v := ?_) rfl (by kernel_rfl) (by kernel_rfl) (by kernel_rfl) (fun _ _ _ h => h) (Or.inl ⟨by rfl, ?_⟩) (by assumption) ?_
              rotate_left
              · (intro wS hSw; (try dsimp only at hSw); go_simp); all_goals with_reducible rfl
              try simp only [Act.put, List.setIfInBounds_toArray, List.set_cons_zero, List.set_cons_succ]
              refine wpAnyH_take (i := 4) (oi := ⟨_, _, _, _, _, _⟩) (v := ?_) rfl (by kernel_rfl) (by kernel_rfl) (by kernel_rfl) (fun _ _ _ h => h) (Or.inl ⟨by rfl, ?_⟩) (by assumption) ?_
              rotate_left
              · (intro wS hSw; (try dsimp only at hSw); go_simp); all_goals with_reducible rfl
              try simp only [Act.put, List.setIfInBounds_toArray, List.set_cons_zero, List.set_cons_succ]
              refine wpAnyH_take (i := 5) (oi := ⟨_, _, _, _, _, _⟩) (v := ?_) rfl (by kernel_rfl) (by kernel_rfl) (by kernel_rfl) (fun _ _ _ h => h) (Or.inl ⟨by rfl, ?_⟩) (by assumption) ?_
              rotate_left
              · (intro wS hSw; (try dsimp only at hSw); go_simp); all_goals with_reducible rfl
              try simp only [Act.put, List.setIfInBounds_toArray, List.set_cons_zero, List.set_cons_succ]
              refine wpAnyH_take (i := 6) (oi := ⟨_, _, _, _, _, _⟩) (v := ?_) rfl (by kernel_rfl) (by kernel_rfl) (by kernel_rfl) (fun _ _ _ h => h) (Or.inl ⟨by rfl, ?_⟩) (by assumption) ?_
              rotate_left
              · (intro wS hSw; (try dsimp only at hSw); go_simp); all_goals with_reducible rfl
              try simp only [Act.put, List.setIfInBounds_toArray, List.set_cons_zero, List.set_cons_succ]
              refine wpAnyH_take (i := 7) (oi := ⟨_, _, _, _, _, _⟩) (v := ?_) rfl (by kernel_rfl) (by kernel_rfl) (by kernel_rfl) (fun _ _ _ h => h) (Or.inl ⟨by rfl, ?_⟩) (by assumption) ?_
              rotate_left
              · (intro wS hSw; (try dsimp only at hSw); go_simp); all_goals with_reducible rfl
              try simp only [Act.put, List.setIfInBounds_toArray, List.set_cons_zero, List.set_cons_succ]
              refine wpAnyH_take (i := 8) (oi := ⟨_, _, _, _, _, _⟩) (v := ?_) rfl (by kernel_rfl) (by kernel_rfl) (by kernel_rfl) (fun _ _ _ h => h) (Or.inl ⟨by rfl, ?_⟩) (by assumption) ?_
              rotate_left
              · (intro wS hSw; (try dsimp only at hSw); go_simp); all_goals with_reducible rfl
              try simp only [Act.put, List.setIfInBounds_toArray, List.set_cons_zero, List.set_cons_succ]
              refine wpAnyH_take (i := 9) (oi := ⟨_, _, _, _, _, _⟩) (v := ?_) rfl (by kernel_rfl) (by kernel_rfl) (by kernel_rfl) (fun _ _ _ h => h) (Or.inl ⟨by rfl, ?_⟩) (by assumption) ?_
              rotate_left
              · (intro wS hSw; (try dsimp only at hSw); go_simp); all_goals with_reducible rfl
              try simp only [Act.put, List.setIfInBounds_toArray, List.set_cons_zero, List.set_cons_succ]
              refine wpAnyH_take (i := 10) (oi := ⟨_, _, _, _, _, _⟩) (v := ?_) rfl (by kernel_rfl) (by kernel_rfl) (by kernel_rfl) (fun _ _ _ h => h) (Or.inl ⟨by rfl, ?_⟩) (by assumption) ?_
              rotate_left
              · (intro wS hSw; (try dsimp only at hSw); go_simp); all_goals with_reducible rfl
              try simp only [Act.put, List.setIfInBounds_toArray, List.set_cons_zero, List.set_cons_succ]
              refine wpAnyH_take (i := 11) (oi := ⟨_, _, _, _, _, _⟩) (v := ?_) rfl (by kernel_rfl) (by kernel_rfl) (by kernel_rfl) (fun _ _ _ h => h) (Or.inl ⟨by rfl, ?_⟩) (by assumption) ?_
              rotate_left
              · (intro wS hSw; (try dsimp only at hSw); go_simp); all_goals with_reducible rfl
              try simp only [Act.put, List.setIfInBounds_toArray, List.set_cons_zero, List.set_cons_succ]
              refine wpAnyH_take (i := 12) (oi := ⟨_, _, _, _, _, _⟩) (v := ?_) rfl (by kernel_rfl) (by kernel_rfl) (by kernel_rfl) (fun _ _ _ h => h) (Or.inl ⟨by rfl, ?_⟩) (by assumption) ?_
              rotate_left
              · (intro wS hSw; (try dsimp only at hSw); go_simp); all_goals with_reducible rfl
              try simp only [Act.put, List.setIfInBounds_toArray, List.set_cons_zero, List.set_cons_succ]
              refine wpAnyH_take (i := 13) (oi := ⟨_, _, _, _, _, _⟩) (v := ?_) rfl (by kernel_rfl) (by kernel_rfl) (by kernel_rfl) (fun _ _ _ h => h) (Or.inl ⟨by rfl, ?_⟩) (by assumption) ?_
              rotate_left
              · (intro wS hSw; (try dsimp only at hSw); go_simp); all_goals with_reducible rfl
              try simp only [Act.put, List.setIfInBounds_toArray, List.set_cons_zero, List.set_cons_succ]
              refine wpAnyH_take (i := 14) (oi := ⟨_, _, _, _, _, _⟩) (v := ?_) rfl (by kernel_rfl) (by kernel_rfl) (by kernel_rfl) (fun _ _ _ h => h) (Or.inl ⟨by rfl, ?_⟩) (by assumption) ?_
              rotate_left
              · (intro wS hSw; (try dsimp only at hSw); go_simp); all_goals with_reducible rfl
              try simp only [Act.put, List.setIfInBounds_toArray, List.set_cons_zero, List.set_cons_succ]
              refine wpAnyH_take (i := 15) (oi := ⟨_, _, _, _, _, _⟩) (v := ?_) rfl (by kernel_rfl) (by kernel_rfl) (by kernel_rfl) (fun _ _ _ h => h) (Or.inl ⟨by rfl, ?_⟩) (by assumption) ?_
              rotate_left
              · (intro wS hSw; (try dsimp only at hSw); go_simp); all_goals with_reducible rfl
              try simp only [Act.put, List.setIfInBounds_toArray, List.set_cons_zero, List.set_cons_succ]
              refine wpAnyH_take (i := 16) (oi := ⟨_, _, _, _, _, _⟩) (v := ?_) rfl (by kernel_rfl) (by kernel_rfl) (by kernel_rfl) (fun _ _ _ h => h) (Or.inl ⟨by rfl, ?_⟩) (by assumption) ?_
              rotate_left
              · (intro wS hSw; (try dsimp only at hSw); go_simp); all_goals with_reducible rfl
              try simp only [Act.put, List.setIfInBounds_toArray, List.set_cons_zero, List.set_cons_succ]
              refine wpAnyH_take (i := 17) (oi := ⟨_, _, _, _, _, _⟩) (v := ?_) rfl (by kernel_rfl) (by kernel_rfl) (by kernel_rfl) (fun _ _ _ h => h) (Or.inl ⟨by rfl, ?_⟩) (by assumption) ?_
              rotate_left
              · (intro wS hSw; (try dsimp only at hSw); go_simp); all_goals with_reducible rfl
              try simp only [Act.put, List.setIfInBounds_toArray, List.set_cons_zero, List.set_cons_succ]
              refine wpAnyH_take (i := 18) (oi := ⟨_, _, _, _, _, _⟩) (v := ?_) rfl (by kernel_rfl) (by kernel_rfl) (by kernel_rfl) (fun _ _ _ h => h) (Or.inl ⟨by rfl, ?_⟩) (by assumption) ?_
              rotate_left
              · (intro wS hSw; (try dsimp only at hSw); go_simp); all_goals with_reducible rfl
              try simp only [Act.put, List.setIfInBounds_toArray, List.set_cons_zero, List.set_cons_succ]
              refine wpAnyH_take (i := 19) (oi := ⟨_, _, _, _, _, _⟩) (v := ?_) rfl (by kernel_rfl) (by kernel_rfl) (by kernel_rfl) (fun _ _ _ h => h) (Or.inl ⟨by rfl, ?_⟩) (by assumption) ?_
              rotate_left
              · (intro wS hSw; (try dsimp only at hSw); go_simp); all_goals with_reducible rfl
              try simp only [Act.put, List.setIfInBounds_toArray, List.set_cons_zero, List.set_cons_succ]
              refine wpAnyH_take (i := 20) (oi := ⟨_, _, _, _, _, _⟩) (v := ?_) rfl (by kernel_rfl) (by kernel_rfl) (by kernel_rfl) (fun _ _ _ h => h) (Or.inl ⟨by rfl, ?_⟩) (by assumption) ?_
              rotate_left
              · (intro wS hSw; (try dsimp only at hSw); go_simp); all_goals with_reducible rfl
              try simp only [Act.put, List.setIfInBounds_toArray, List.set_cons_zero, List.set_cons_succ]
              refine wpAnyH_done (by kernel_rfl) ?_ _
              clear hHeld
              go_wp2_with fail
              obtain ⟨W2, hW2⟩ : ∃ W2, Hid (W2 = (wr.alloc (.cells #[.int .i64 x.level, .int .i64 x.kind, .string ⟨x.name.toArray⟩, .string ⟨x.text.toArray⟩, .slice A' x.attrs.length c'] 30)).drew) := ⟨_, rfl⟩
              have HW2 : Hid ((fun w' => w'.cell? (gd.add ((m - 1) * 5)) = some (.int .i64 s.1.level) ∧ w'.cell? ⟨(gd.add ((m - 1) * 5)).block, (gd.add ((m - 1) * 5)).off + 1, none⟩ = some (.int .i64 s.1.kind) ∧ w'.cell? ⟨(gd.add ((m - 1) * 5)).block, (gd.add ((m - 1) * 5)).off + 3, none⟩ = some (.string ⟨s.1.text.toArray⟩) ∧ w'.cell? ⟨wr.heap.size, 0, none⟩ = some (.int .i64 x.level) ∧ w'.cell? ⟨wr.heap.size, 3, none⟩ = some (.string ⟨x.text.toArray⟩)) W2.drew) := by rw [hW2.out]; exact HW.out
              have HF2 : Hid (W2.drew.frozen? ⟨(gd.add ((m - 1) * 5)).block, (gd.add ((m - 1) * 5)).off + 3, none⟩ = false) := by
                have hb : Below wr.heap.size wr W2.drew := by rw [hW2.out]; exact (((Below.refl _ wr).alloc (Nat.le_refl _) _).drew).drew
                show _ = _
                rw [hb.frozen (by show (gd.add _).block < _; rw [block_of_add]; exact hgb), hgd.out, add_zero_block]
                have ho := hown.out
                unfold ItemsOwn at ho
                rw [hgd.out] at ho
                exact ho.frozenAt _
              have h1' := htx.out s (List.mem_of_getElem? hs.out)
              have h2' := textSum_take hx.out
              have h3' := textSum_take_le l (k + 1)
              have h4' := HT.out
              rw [← hW2.out]
              clear h0 h1 h2 h3 h4
              have htl : ¬ (9223372036854775807 < s.1.text.length + x.text.length) := by omega
              obtain ⟨q0, q1, q3, r0, r3⟩ := HW2.out
              have qf := HF2.out
              go_still_tail 10, (by kernel_rfl)
              change wpList _ _ _ _ _ W2.drew
              have hbW2 : Below wr.heap.size wr W2.drew := by rw [hW2.out]; exact (((Below.refl _ wr).alloc (Nat.le_refl _) _).drew).drew
              have hown2 : W2.drew.ownsRow w.heap.size 30 5 (.slice (some ⟨g, 0, none⟩) m cp) m (S.flatMap cellsI) := by
                rw [← hm.out, ← hgd.out]; exact hown.out.keepB hbW2
              have hst := hown2.stored ((m - 1) * 5 + 3) (.string (⟨s.1.text.toArray⟩ ++ ⟨x.text.toArray⟩))
              rw [flat_set cellsI 5 cellsI_length S (m - 1) 3 s ({ s.1 with text := s.1.text ++ x.text }, s.2.1, s.2.2) _ hs.out (by decide) (by rw [str_app]; rfl)] at hst
              have hao : ∀ s' ∈ S, AttrsOwn (W2.drew.setCell ⟨g, (m - 1) * 5 + 3, none⟩ (.string (⟨s.1.text.toArray⟩ ++ ⟨x.text.toArray⟩))) w.heap.size s'.2.1 s'.2.2 s'.1.attrs := fun s' hs' =>
                World.ownsRow.kept ((hattr.out s' hs').keepB hbW2) hst.2 (own_apart ((hattr.out s' hs').keepB hbW2) hown2 (by decide))
              have HST := Lib.hid hst.1
              have HAO := Lib.hid hao
              have hgl : w.heap.size ≤ g := by
                have := (hown2.lt g rfl).1
                exact this
              clear hst hao hown2
              go_wp2_with fail
              have heq : (⟨(gd.add ((m - 1) * 5)).block, (gd.add ((m - 1) * 5)).off + 3, none⟩ : Addr) = ⟨g, (m - 1) * 5 + 3, none⟩ := by rw [hgd.out, add_zero_block]
              rw [heq]
              go_roundw
              case rel =>
                refine ⟨k + 1, S.set (m - 1) ({ s.1 with text := s.1.text ++ x.text }, s.2.1, s.2.2), some gd, cp, m, by omega, by go_num, rfl, by show _ = _; rw [List.length_set]; exact hm.out, by omega, ?_, ?_, ?_, ?_, ?_⟩
                · intro s' hs'
                  rw [textSum_take hx.out]
                  rcases List.mem_or_eq_of_mem_set hs' with h | h
                  · have := htx.out s' h; omega
                  · subst h; simp only [List.length_append]; omega
                · show World.ownsRow _ _ _ _ _ _ _
                  rw [List.length_set, hm.out, hgd.out]
                  exact HST.out
                · intro s' hs'
                  rcases List.mem_or_eq_of_mem_set hs' with h | h
                  · exact HAO.out s' h
                  · subst h; exact HAO.out s (List.mem_of_getElem? hs.out)
                · show _ = _
                  rw [← HIN.out, List.map_set, List.length_map, hm.out]
                · exact (hbel.trans (hbW2.mono hzr)).setCell (by exact hgl) _
              case measure => simp [intOf]; omega
            · have HIN : Hid (List.foldl nstep (S.map (·.1) ++ [x]) (l.drop (k + 1)) = N) := by
                show _ = _
                rw [← hin', nstep_app (fun h => ht0 h.2) (fun p hp => by rw [hprev] at hp; injection hp with hp; subst hp; exact fun h => hj h.2)]
              clear hin' hk2 ht0 hprev hlast
              by_cases hj1 : s.1.kind = 2
              · have d4 : (s.1.kind == 2) = true := by simp [hj1]
                have d5 : (s.1.level == x.level) = false := by
                  have : ¬ s.1.level = x.level := fun h => hj ⟨hj1, h⟩
                  simp [this]
                clear hj hj1
                go_wp2_with fail
                refine wp_region_held_drew (S := fun w' => w'.cell? (gd.add ((m - 1) * 5)) = some (.int .i64 s.1.level) ∧ w'.cell? ⟨(gd.add ((m - 1) * 5)).block, (gd.add ((m - 1) * 5)).off + 1, none⟩ = some (.int .i64 s.1.kind) ∧ w'.cell? ⟨(gd.add ((m - 1) * 5)).block, (gd.add ((m - 1) * 5)).off + 3, none⟩ = some (.string ⟨s.1.text.toArray⟩) ∧ w'.cell? ⟨wr.heap.size, 0, none⟩ = some (.int .i64 x.level) ∧ w'.cell? ⟨wr.heap.size, 3, none⟩ = some (.string ⟨x.text.toArray⟩)) (by kernel_rfl) HW.out (fun hHeld => ?_)
                refine wpAnyH_take (i := 0) (oi := ⟨_, _, _, _, _, _⟩) (v := ?_) rfl (by kernel_rfl) (by kernel_rfl) (by kernel_rfl) (fun _ _ _ h => h) (Or.inl ⟨by rfl, ?_⟩) (by assumption) ?_
                rotate_left
                · (intro wS hSw; (try dsimp only at hSw); go_simp); all_goals with_reducible rfl
                try simp only [Act.put, List.setIfInBounds_toArray, List.set_cons_zero, List.set_cons_succ]
                refine wpAnyH_take (i := 1) (oi := ⟨_, _, _, _, _, _⟩) (v := ?_) rfl (by kernel_rfl) (by kernel_rfl) (by kernel_rfl) (fun _ _ _ h => h) (Or.inl ⟨by rfl, ?_⟩) (by assumption) ?_
                rotate_left
                · (intro wS hSw; (try dsimp only at hSw); go_simp); all_goals with_reducible rfl
                try simp only [Act.put, List.setIfInBounds_toArray, List.set_cons_zero, List.set_cons_succ]
                refine wpAnyH_take (i := 2) (oi := ⟨_, _, _, _, _, _⟩) (v := ?_) rfl (by kernel_rfl) (by kernel_rfl) (by kernel_rfl) (fun _ _ _ h => h) (Or.inl ⟨by rfl, ?_⟩) (by assumption) ?_
                rotate_left
                · (intro wS hSw; (try dsimp only at hSw); go_simp); all_goals with_reducible rfl
                try simp only [Act.put, List.setIfInBounds_toArray, List.set_cons_zero, List.set_cons_succ]
                refine wpAnyH_take (i := 3) (oi := ⟨_, _, _, _, _, _⟩) (v := ?_) rfl (by kernel_rfl) (by kernel_rfl) (by kernel_rfl) (fun _ _ _ h => h) (Or.inl ⟨by rfl, ?_⟩) (by assumption) ?_
                rotate_left
                · (intro wS hSw; (try dsimp only at hSw); go_simp); all_goals with_reducible rfl
                try simp only [Act.put, List.setIfInBounds_toArray, List.set_cons_zero, List.set_cons_succ]
                refine wpAnyH_take (i := 4) (oi := ⟨_, _, _, _, _, _⟩) (v := ?_) rfl (by kernel_rfl) (by kernel_rfl) (by kernel_rfl) (fun _ _ _ h => h) (Or.inl ⟨by rfl, ?_⟩) (by assumption) ?_
                rotate_left
                · (intro wS hSw; (try dsimp only at hSw); go_simp); all_goals with_reducible rfl
                try simp only [Act.put, List.setIfInBounds_toArray, List.set_cons_zero, List.set_cons_succ]
                refine wpAnyH_take (i := 5) (oi := ⟨_, _, _, _, _, _⟩) (v := ?_) rfl (by kernel_rfl) (by kernel_rfl) (by kernel_rfl) (fun _ _ _ h => h) (Or.inl ⟨by rfl, ?_⟩) (by assumption) ?_
                rotate_left
                · (intro wS hSw; (try dsimp only at hSw); go_simp); all_goals with_reducible rfl
                try simp only [Act.put, List.setIfInBounds_toArray, List.set_cons_zero, List.set_cons_succ]
                refine wpAnyH_take (i := 6) (oi := ⟨_, _, _, _, _, _⟩) (v := ?_) rfl (by kernel_rfl) (by kernel_rfl) (by kernel_rfl) (fun _ _ _ h => h) (Or.inl ⟨by rfl, ?_⟩) (by assumption) ?_
                rotate_left
                · (intro wS hSw; (try dsimp only at hSw); go_simp); all_goals with_reducible rfl
                try simp only [Act.put, List.setIfInBounds_toArray, List.set_cons_zero, List.set_cons_succ]
                refine wpAnyH_take (i := 7) (oi := ⟨_, _, _, _, _, _⟩) (v := ?_) rfl (by kernel_rfl) (by kernel_rfl) (by kernel_rfl) (fun _ _ _ h => h) (Or.inl ⟨by rfl, ?_⟩) (by assumption) ?_
                rotate_left
                · (intro wS hSw; (try dsimp only at hSw); go_simp); all_goals with_reducible rfl
                try simp only [Act.put, List.setIfInBounds_toArray, List.set_cons_zero, List.set_cons_succ]
                refine wpAnyH_take (i := 8) (oi := ⟨_, _, _, _, _, _⟩) (v := ?_) rfl (by kernel_rfl) (by kernel_rfl) (by kernel_rfl) (fun _ _ _ h => h) (Or.inl ⟨by rfl, ?_⟩) (by assumption) ?_
                rotate_left
                · (intro wS hSw; (try dsimp only at hSw); go_simp); all_goals with_reducible rfl
                try simp only [Act.put, List.setIfInBounds_toArray, List.set_cons_zero, List.set_cons_succ]
                refine wpAnyH_take (i := 9) (oi := ⟨_, _, _, _, _, _⟩) (v := ?_) rfl (by kernel_rfl) (by kernel_rfl) (by kernel_rfl) (fun _ _ _ h => h) (Or.inl ⟨by rfl, ?_⟩) (by assumption) ?_
                rotate_left
                · (intro wS hSw; (try dsimp only at hSw); go_simp); all_goals with_reducible rfl
                try simp only [Act.put, List.setIfInBounds_toArray, List.set_cons_zero, List.set_cons_succ]
                refine wpAnyH_take (i := 10) (oi := ⟨_, _, _, _, _, _⟩) (v := ?_) rfl (by kernel_rfl) (by kernel_rfl) (by kernel_rfl) (fun _ _ _ h => h) (Or.inl ⟨by rfl, ?_⟩) (by assumption) ?_
                rotate_left
                · (intro wS hSw; (try dsimp only at hSw); go_simp); all_goals with_reducible rfl
                try simp only [Act.put, List.setIfInBounds_toArray, List.set_cons_zero, List.set_cons_succ]
                refine wpAnyH_take (i := 11) (oi := ⟨_, _, _, _, _, _⟩) (v := ?_) rfl (by kernel_rfl) (by kernel_rfl) (by kernel_rfl) (fun _ _ _ h => h) (Or.inl ⟨by rfl, ?_⟩) (by assumption) ?_
                rotate_left
                · (intro wS hSw; (try dsimp only at hSw); go_simp); all_goals with_reducible rfl
                try simp only [Act.put, List.setIfInBounds_toArray, List.set_cons_zero, List.set_cons_succ]
                refine wpAnyH_take (i := 12) (oi := ⟨_, _, _, _, _, _⟩) (v := ?_) rfl (by kernel_rfl) (by kernel_rfl) (by kernel_rfl) (fun _ _ _ h => h) (Or.inl ⟨by rfl, ?_⟩) (by assumption) ?_
                rotate_left
                · (intro wS hSw; (try dsimp only at hSw); go_simp); all_goals with_reducible rfl
                try simp only [Act.put, List.setIfInBounds_toArray, List.set_cons_zero, List.set_cons_succ]
                refine wpAnyH_take (i := 13) (oi := ⟨_, _, _, _, _, _⟩) (v := ?_) rfl (by kernel_rfl) (by kernel_rfl) (by kernel_rfl) (fun _ _ _ h => h) (Or.inl ⟨by rfl, ?_⟩) (by assumption) ?_
                rotate_left
                · (intro wS hSw; (try dsimp only at hSw); go_simp); all_goals with_reducible rfl
                try simp only [Act.put, List.setIfInBounds_toArray, List.set_cons_zero, List.set_cons_succ]
                refine wpAnyH_take (i := 14) (oi := ⟨_, _, _, _, _, _⟩) (v := ?_) rfl (by kernel_rfl) (by kernel_rfl) (by kernel_rfl) (fun _ _ _ h => h) (Or.inl ⟨by rfl, ?_⟩) (by assumption) ?_
                rotate_left
                · (intro wS hSw; (try dsimp only at hSw); go_simp); all_goals with_reducible rfl
                try simp only [Act.put, List.setIfInBounds_toArray, List.set_cons_zero, List.set_cons_succ]
                refine wpAnyH_take (i := 15) (oi := ⟨_, _, _, _, _, _⟩) (v := ?_) rfl (by kernel_rfl) (by kernel_rfl) (by kernel_rfl) (fun _ _ _ h => h) (Or.inl ⟨by rfl, ?_⟩) (by assumption) ?_
                rotate_left
                · (intro wS hSw; (try dsimp only at hSw); go_simp); all_goals with_reducible rfl
                try simp only [Act.put, List.setIfInBounds_toArray, List.set_cons_zero, List.set_cons_succ]
                refine wpAnyH_take (i := 16) (oi := ⟨_, _, _, _, _, _⟩) (v := ?_) rfl (by kernel_rfl) (by kernel_rfl) (by kernel_rfl) (fun _ _ _ h => h) (Or.inl ⟨by rfl, ?_⟩) (by assumption) ?_
                rotate_left
                · (intro wS hSw; (try dsimp only at hSw); go_simp); all_goals with_reducible rfl
                try simp only [Act.put, List.setIfInBounds_toArray, List.set_cons_zero, List.set_cons_succ]
                refine wpAnyH_take (i := 17) (oi := ⟨_, _, _, _, _, _⟩) (v := ?_) rfl (by kernel_rfl) (by kernel_rfl) (by kernel_rfl) (fun _ _ _ h => h) (Or.inl ⟨by rfl, ?_⟩) (by assumption) ?_
                rotate_left
                · (intro wS hSw; (try dsimp only at hSw); go_simp); all_goals with_reducible rfl
                try simp only [Act.put, List.setIfInBounds_toArray, List.set_cons_zero, List.set_cons_succ]
                refine wpAnyH_take (i := 18) (oi := ⟨_, _, _, _, _, _⟩) (v := ?_) rfl (by kernel_rfl) (by kernel_rfl) (by kernel_rfl) (fun _ _ _ h => h) (Or.inl ⟨by rfl, ?_⟩) (by assumption) ?_
                rotate_left
                · (intro wS hSw; (try dsimp only at hSw); go_simp); all_goals with_reducible rfl
                try simp only [Act.put, List.setIfInBounds_toArray, List.set_cons_zero, List.set_cons_succ]
                refine wpAnyH_take (i := 19) (oi := ⟨_, _, _, _, _, _⟩) (v := ?_) rfl (by kernel_rfl) (by kernel_rfl) (by kernel_rfl) (fun _ _ _ h => h) (Or.inl ⟨by rfl, ?_⟩) (by assumption) ?_
                rotate_left
                · (intro wS hSw; (try dsimp only at hSw); go_simp); all_goals with_reducible rfl
                try simp only [Act.put, List.setIfInBounds_toArray, List.set_cons_zero, List.set_cons_succ]
                refine wpAnyH_take (i := 20) (oi := ⟨_, _, _, _, _, _⟩) (v := ?_) rfl (by kernel_rfl) (by kernel_rfl) (by kernel_rfl) (fun _ _ _ h => h) (Or.inl ⟨by rfl, ?_⟩) (by assumption) ?_
                rotate_left
                · (intro wS hSw; (try dsimp only at hSw); go_simp); all_goals with_reducible rfl
                try simp only [Act.put, List.setIfInBounds_toArray, List.set_cons_zero, List.set_cons_succ]
                refine wpAnyH_done (by kernel_rfl) ?_ _
                clear hHeld d1 d2 d3 d4 d5 kn
                go_wp2_with fail
                obtain ⟨W1, hW1⟩ : ∃ W1, Hid (W1 = (wr.alloc (.cells #[.int .i64 x.level, .int .i64 x.kind, .string ⟨x.name.toArray⟩, .string ⟨x.text.toArray⟩, .slice A' x.attrs.length c'] 30)).drew) := ⟨_, rfl⟩
                obtain ⟨hbW, hzW, hcs⟩ := box_cells (wr := wr) (W1 := W1) (x := x) (A' := A') (c' := c') (.inr hW1.out)
                have HCS := Lib.hid hcs
                have HZW := Lib.hid hzW
                have hzW' : wr.heap.size < W1.heap.size := by omega
                obtain ⟨⟨b0, b1, b2, b3, b4⟩, bf⟩ := hcs W1 (Below.refl _ _)
                have bf4 := bf 4
                clear hcs hzW bf h0 h1 h2 h3 h4
                rw [← hW1.out]
                go_wp2_with fail
                refine (Clone_any x.attrs A' c' _ ((HAT.out.below hbW).more (Nat.le_of_lt hzW')) hsx.out.2.2.1).mono ?_
                rintro e w2 ⟨A2, c2, rfl, hcl, hb2⟩
                have HCL := Lib.hid hcl
                clear hcl b0 b1 b2 b3 b4 bf4
                obtain ⟨⟨b0, b1, b2, b3, b4⟩, bf⟩ := HCS.out w2 hb2
                have bf4 := bf 4
                have hz2 := hb2.size
                clear bf
                obtain ⟨W3, hW3⟩ : ∃ W3, Hid (W3 = w2.setCell ⟨wr.heap.size, 4, none⟩ (.slice A2 x.attrs.length c2)) := ⟨_, rfl⟩
                have hb3 : Below wr.heap.size wr W3 := by rw [hW3.out]; exact (hbW.trans (hb2.mono (Nat.le_of_lt hzW'))).setCell (Nat.le_refl _) _
                have hz3 : wr.heap.size < W3.heap.size := by rw [hW3.out]; simp; omega
                have hown3 : W3.ownsRow w.heap.size 30 5 (.slice (some gd) m cp) m (S.flatMap cellsI) := by rw [← hm.out]; exact hown.out.keepB hb3
                have hattr3 : Hid (∀ s ∈ S ++ [(x, A2, c2)], AttrsOwn W3 w.heap.size s.2.1 s.2.2 s.1.attrs) := fun s hs => by
                  rcases List.mem_append.1 hs with h | h
                  · exact (hattr.out s h).keepB hb3
                  · simp at h; subst h
                    rw [hW3.out]
                    exact own_base (ownsRow_setCell_below HCL.out (by show wr.heap.size < _; exact hzW') _) (by omega)
                go_wp2_with (at_builtin; rw [← hW3.out]; go_loud (refine appendS rfl (.tmp 59) (.tmp 61) 22 rfl w.heap.size 30 (.agg #[.int .i64 0, .int .i64 0, .string ByteArray.empty, .string ByteArray.empty, .slice none 0 0]) 5 72 Try.underlying22 infoItem rfl (by decide) _ m _ (cellsI (x, A2, c2)) rfl hown3 (by omega) _ rfl (by rw [hW3.out]; simp) (cellsI_length _) (cellsI_one _) (by omega) (by decide) ?_))
                intro a4 c4 w4 hown4 hb4 hz4 hg4
                have hown4' : ItemsOwn w4 w.heap.size a4 c4 (S ++ [(x, A2, c2)]) := by
                  unfold ItemsOwn
                  rw [List.length_append, List.flatMap_append, hm.out]
                  simpa using hown4
                have htx4 : Hid (∀ s ∈ S ++ [(x, A2, c2)], s.1.text.length ≤ textSum (l.take (k + 1))) := fun s hs => by
                  rw [textSum_take hx.out]
                  rcases List.mem_append.1 hs with h | h
                  · have := htx.out s h; omega
                  · simp at h; subst h; show x.text.length ≤ _; omega
                have hattr4 : Hid (∀ s ∈ S ++ [(x, A2, c2)], AttrsOwn w4 w.heap.size s.2.1 s.2.2 s.1.attrs) := fun s hs => own_grown (World.ownsRow.alloc (hattr3.out s hs) _) (World.ownsRow.alloc hown3 _) (by decide) hg4
                have hb4' : Below w.heap.size w w4 := hbel.trans ((hb3.mono hzr).trans hb4)
                have HIN4 : Hid (List.foldl nstep ((S ++ [(x, A2, c2)]).map (·.1)) (l.drop (k + 1)) = N) := by
                  show _ = _
                  rw [List.map_append]
                  exact HIN.out
                clear hown4 hg4
                go_wp2_with fail
                go_roundw
                case rel => exact ⟨k + 1, S ++ [(x, A2, c2)], a4, c4, m + 1, by omega, by go_num, rfl, by show _ = _; rw [List.length_append, hm.out]; rfl, by omega, htx4, hown4', hattr4, HIN4, hb4'⟩
                case measure => simp [intOf]; omega
              · have d4 : (s.1.kind == 2) = false := by simp [hj1]
                clear hj hj1
                go_wp2_with fail
                refine wp_region_held_drew (S := fun w' => w'.cell? (gd.add ((m - 1) * 5)) = some (.int .i64 s.1.level) ∧ w'.cell? ⟨(gd.add ((m - 1) * 5)).block, (gd.add ((m - 1) * 5)).off + 1, none⟩ = some (.int .i64 s.1.kind) ∧ w'.cell? ⟨(gd.add ((m - 1) * 5)).block, (gd.add ((m - 1) * 5)).off + 3, none⟩ = some (.string ⟨s.1.text.toArray⟩) ∧ w'.cell? ⟨wr.heap.size, 0, none⟩ = some (.int .i64 x.level) ∧ w'.cell? ⟨wr.heap.size, 3, none⟩ = some (.string ⟨x.text.toArray⟩)) (by kernel_rfl) HW.out (fun hHeld => ?_)
                refine wpAnyH_take (i := 0) (oi := ⟨_, _, _, _, _, _⟩) (v := ?_) rfl (by kernel_rfl) (by kernel_rfl) (by kernel_rfl) (fun _ _ _ h => h) (Or.inl ⟨by rfl, ?_⟩) (by assumption) ?_
                rotate_left
                · (intro wS hSw; (try dsimp only at hSw); go_simp); all_goals with_reducible rfl
                try simp only [Act.put, List.setIfInBounds_toArray, List.set_cons_zero, List.set_cons_succ]
                refine wpAnyH_take (i := 1) (oi := ⟨_, _, _, _, _, _⟩) (v := ?_) rfl (by kernel_rfl) (by kernel_rfl) (by kernel_rfl) (fun _ _ _ h => h) (Or.inl ⟨by rfl, ?_⟩) (by assumption) ?_
                rotate_left
                · (intro wS hSw; (try dsimp only at hSw); go_simp); all_goals with_reducible rfl
                try simp only [Act.put, List.setIfInBounds_toArray, List.set_cons_zero, List.set_cons_succ]
                refine wpAnyH_take (i := 2) (oi := ⟨_, _, _, _, _, _⟩) (v := ?_) rfl (by kernel_rfl) (by kernel_rfl) (by kernel_rfl) (fun _ _ _ h => h) (Or.inl ⟨by rfl, ?_⟩) (by assumption) ?_
                rotate_left
                · (intro wS hSw; (try dsimp only at hSw); go_simp); all_goals with_reducible rfl
                try simp only [Act.put, List.setIfInBounds_toArray, List.set_cons_zero, List.set_cons_succ]
                refine wpAnyH_take (i := 3) (oi := ⟨_, _, _, _, _, _⟩) (v := ?_) rfl (by kernel_rfl) (by kernel_rfl) (by kernel_rfl) (fun _ _ _ h => h) (Or.inl ⟨by rfl, ?_⟩) (by assumption) ?_
                rotate_left
                · (intro wS hSw; (try dsimp only at hSw); go_simp); all_goals with_reducible rfl
                try simp only [Act.put, List.setIfInBounds_toArray, List.set_cons_zero, List.set_cons_succ]
                refine wpAnyH_take (i := 4) (oi := ⟨_, _, _, _, _, _⟩) (v := ?_) rfl (by kernel_rfl) (by kernel_rfl) (by kernel_rfl) (fun _ _ _ h => h) (Or.inl ⟨by rfl, ?_⟩) (by assumption) ?_
                rotate_left
                · (intro wS hSw; (try dsimp only at hSw); go_simp); all_goals with_reducible rfl
                try simp only [Act.put, List.setIfInBounds_toArray, List.set_cons_zero, List.set_cons_succ]
                refine wpAnyH_take (i := 5) (oi := ⟨_, _, _, _, _, _⟩) (v := ?_) rfl (by kernel_rfl) (by kernel_rfl) (by kernel_rfl) (fun _ _ _ h => h) (Or.inl ⟨by rfl, ?_⟩) (by assumption) ?_
                rotate_left
                · (intro wS hSw; (try dsimp only at hSw); go_simp); all_goals with_reducible rfl
                try simp only [Act.put, List.setIfInBounds_toArray, List.set_cons_zero, List.set_cons_succ]
                refine wpAnyH_take (i := 6) (oi := ⟨_, _, _, _, _, _⟩) (v := ?_) rfl (by kernel_rfl) (by kernel_rfl) (by kernel_rfl) (fun _ _ _ h => h) (Or.inl ⟨by rfl, ?_⟩) (by assumption) ?_
                rotate_left
                · (intro wS hSw; (try dsimp only at hSw); go_simp); all_goals with_reducible rfl
                try simp only [Act.put, List.setIfInBounds_toArray, List.set_cons_zero, List.set_cons_succ]
                refine wpAnyH_take (i := 7) (oi := ⟨_, _, _, _, _, _⟩) (v := ?_) rfl (by kernel_rfl) (by kernel_rfl) (by kernel_rfl) (fun _ _ _ h => h) (Or.inl ⟨by rfl, ?_⟩) (by assumption) ?_
                rotate_left
                · (intro wS hSw; (try dsimp only at hSw); go_simp); all_goals with_reducible rfl
                try simp only [Act.put, List.setIfInBounds_toArray, List.set_cons_zero, List.set_cons_succ]
                refine wpAnyH_take (i := 8) (oi := ⟨_, _, _, _, _, _⟩) (v := ?_) rfl (by kernel_rfl) (by kernel_rfl) (by kernel_rfl) (fun _ _ _ h => h) (Or.inl ⟨by rfl, ?_⟩) (by assumption) ?_
                rotate_left
                · (intro wS hSw; (try dsimp only at hSw); go_simp); all_goals with_reducible rfl
                try simp only [Act.put, List.setIfInBounds_toArray, List.set_cons_zero, List.set_cons_succ]
                refine wpAnyH_take (i := 9) (oi := ⟨_, _, _, _, _, _⟩) (v := ?_) rfl (by kernel_rfl) (by kernel_rfl) (by kernel_rfl) (fun _ _ _ h => h) (Or.inl ⟨by rfl, ?_⟩) (by assumption) ?_
                rotate_left
                · (intro wS hSw; (try dsimp only at hSw); go_simp); all_goals with_reducible rfl
                try simp only [Act.put, List.setIfInBounds_toArray, List.set_cons_zero, List.set_cons_succ]
                refine wpAnyH_take (i := 10) (oi := ⟨_, _, _, _, _, _⟩) (v := ?_) rfl (by kernel_rfl) (by kernel_rfl) (by kernel_rfl) (fun _ _ _ h => h) (Or.inl ⟨by rfl, ?_⟩) (by assumption) ?_
                rotate_left
                · (intro wS hSw; (try dsimp only at hSw); go_simp); all_goals with_reducible rfl
                try simp only [Act.put, List.setIfInBounds_toArray, List.set_cons_zero, List.set_cons_succ]
                refine wpAnyH_take (i := 11) (oi := ⟨_, _, _, _, _, _⟩) (v := undef) rfl (by kernel_rfl) (by kernel_rfl) (by kernel_rfl) (fun _ _ _ h => h) (Or.inr ⟨by rfl, rfl⟩) (by assumption) ?_
                try simp only [Act.put, List.setIfInBounds_toArray, List.set_cons_zero, List.set_cons_succ]
                refine wpAnyH_take (i := 12) (oi := ⟨_, _, _, _, _, _⟩) (v := undef) rfl (by kernel_rfl) (by kernel_rfl) (by kernel_rfl) (fun _ _ _ h => h) (Or.inr ⟨by rfl, rfl⟩) (by assumption) ?_
                try simp only [Act.put, List.setIfInBounds_toArray, List.set_cons_zero, List.set_cons_succ]
                refine wpAnyH_take (i := 13) (oi := ⟨_, _, _, _, _, _⟩) (v := undef) rfl (by kernel_rfl) (by kernel_rfl) (by kernel_rfl) (fun _ _ _ h => h) (Or.inr ⟨by rfl, rfl⟩) (by assumption) ?_
                try simp only [Act.put, List.setIfInBounds_toArray, List.set_cons_zero, List.set_cons_succ]
                refine wpAnyH_take (i := 14) (oi := ⟨_, _, _, _, _, _⟩) (v := undef) rfl (by kernel_rfl) (by kernel_rfl) (by kernel_rfl) (fun _ _ _ h => h) (Or.inr ⟨by rfl, rfl⟩) (by assumption) ?_
                try simp only [Act.put, List.setIfInBounds_toArray, List.set_cons_zero, List.set_cons_succ]
                refine wpAnyH_take (i := 15) (oi := ⟨_, _, _, _, _, _⟩) (v := undef) rfl (by kernel_rfl) (by kernel_rfl) (by kernel_rfl) (fun _ _ _ h => h) (Or.inr ⟨by rfl, rfl⟩) (by assumption) ?_
                try simp only [Act.put, List.setIfInBounds_toArray, List.set_cons_zero, List.set_cons_succ]
                refine wpAnyH_take (i := 16) (oi := ⟨_, _, _, _, _, _⟩) (v := undef) rfl (by kernel_rfl) (by kernel_rfl) (by kernel_rfl) (fun _ _ _ h => h) (Or.inr ⟨by rfl, rfl⟩) (by assumption) ?_
                try simp only [Act.put, List.setIfInBounds_toArray, List.set_cons_zero, List.set_cons_succ]
                refine wpAnyH_take (i := 17) (oi := ⟨_, _, _, _, _, _⟩) (v := undef) rfl (by kernel_rfl) (by kernel_rfl) (by kernel_rfl) (fun _ _ _ h => h) (Or.inr ⟨by rfl, rfl⟩) (by assumption) ?_
                try simp only [Act.put, List.setIfInBounds_toArray, List.set_cons_zero, List.set_cons_succ]
                refine wpAnyH_take (i := 18) (oi := ⟨_, _, _, _, _, _⟩) (v := undef) rfl (by kernel_rfl) (by kernel_rfl) (by kernel_rfl) (fun _ _ _ h => h) (Or.inr ⟨by rfl, rfl⟩) (by assumption) ?_
                try simp only [Act.put, List.setIfInBounds_toArray, List.set_cons_zero, List.set_cons_succ]
                refine wpAnyH_take (i := 19) (oi := ⟨_, _, _, _, _, _⟩) (v := ?_) rfl (by kernel_rfl) (by kernel_rfl) (by kernel_rfl) (fun _ _ _ h => h) (Or.inl ⟨by rfl, ?_⟩) (by assumption) ?_
                rotate_left
                · (intro wS hSw; (try dsimp only at hSw); go_simp); all_goals with_reducible rfl
                try simp only [Act.put, List.setIfInBounds_toArray, List.set_cons_zero, List.set_cons_succ]
                refine wpAnyH_take (i := 20) (oi := ⟨_, _, _, _, _, _⟩) (v := ?_) rfl (by kernel_rfl) (by kernel_rfl) (by kernel_rfl) (fun _ _ _ h => h) (Or.inl ⟨by rfl, ?_⟩) (by assumption) ?_
                rotate_left
                · (intro wS hSw; (try dsimp only at hSw); go_simp); all_goals with_reducible rfl
                try simp only [Act.put, List.setIfInBounds_toArray, List.set_cons_zero, List.set_cons_succ]
                refine wpAnyH_done (by kernel_rfl) ?_ _
                clear hHeld d1 d2 d3 d4 kn
                go_wp2_with fail
                obtain ⟨W1, hW1⟩ : ∃ W1, Hid (W1 = (wr.alloc (.cells #[.int .i64 x.level, .int .i64 x.kind, .string ⟨x.name.toArray⟩, .string ⟨x.text.toArray⟩, .slice A' x.attrs.length c'] 30)).drew) := ⟨_, rfl⟩
                obtain ⟨hbW, hzW, hcs⟩ := box_cells (wr := wr) (W1 := W1) (x := x) (A' := A') (c' := c') (.inr hW1.out)
                have HCS := Lib.hid hcs
                have HZW := Lib.hid hzW
                have hzW' : wr.heap.size < W1.heap.size := by omega
                obtain ⟨⟨b0, b1, b2, b3, b4⟩, bf⟩ := hcs W1 (Below.refl _ _)
                have bf4 := bf 4
                clear hcs hzW bf h0 h1 h2 h3 h4
                rw [← hW1.out]
                go_wp2_with fail
                refine (Clone_any x.attrs A' c' _ ((HAT.out.below hbW).more (Nat.le_of_lt hzW')) hsx.out.2.2.1).mono ?_
                rintro e w2 ⟨A2, c2, rfl, hcl, hb2⟩
                have HCL := Lib.hid hcl
                clear hcl b0 b1 b2 b3 b4 bf4
                obtain ⟨⟨b0, b1, b2, b3, b4⟩, bf⟩ := HCS.out w2 hb2
                have bf4 := bf 4
                have hz2 := hb2.size
                clear bf
                obtain ⟨W3, hW3⟩ : ∃ W3, Hid (W3 = w2.setCell ⟨wr.heap.size, 4, none⟩ (.slice A2 x.attrs.length c2)) := ⟨_, rfl⟩
                have hb3 : Below wr.heap.size wr W3 := by rw [hW3.out]; exact (hbW.trans (hb2.mono (Nat.le_of_lt hzW'))).setCell (Nat.le_refl _) _
                have hz3 : wr.heap.size < W3.heap.size := by rw [hW3.out]; simp; omega
                have hown3 : W3.ownsRow w.heap.size 30 5 (.slice (some gd) m cp) m (S.flatMap cellsI) := by rw [← hm.out]; exact hown.out.keepB hb3
                have hattr3 : Hid (∀ s ∈ S ++ [(x, A2, c2)], AttrsOwn W3 w.heap.size s.2.1 s.2.2 s.1.attrs) := fun s hs => by
                  rcases List.mem_append.1 hs with h | h
                  · exact (hattr.out s h).keepB hb3
                  · simp at h; subst h
                    rw [hW3.out]
                    exact own_base (ownsRow_setCell_below HCL.out (by show wr.heap.size < _; exact hzW') _) (by omega)
                go_wp2_with (at_builtin; rw [← hW3.out]; go_loud (refine appendS rfl (.tmp 59) (.tmp 61) 22 rfl w.heap.size 30 (.agg #[.int .i64 0, .int .i64 0, .string ByteArray.empty, .string ByteArray.empty, .slice none 0 0]) 5 72 Try.underlying22 infoItem rfl (by decide) _ m _ (cellsI (x, A2, c2)) rfl hown3 (by omega) _ rfl (by rw [hW3.out]; simp) (cellsI_length _) (cellsI_one _) (by omega) (by decide) ?_))
                intro a4 c4 w4 hown4 hb4 hz4 hg4
                have hown4' : ItemsOwn w4 w.heap.size a4 c4 (S ++ [(x, A2, c2)]) := by
                  unfold ItemsOwn
                  rw [List.length_append, List.flatMap_append, hm.out]
                  simpa using hown4
                have htx4 : Hid (∀ s ∈ S ++ [(x, A2, c2)], s.1.text.length ≤ textSum (l.take (k + 1))) := fun s hs => by
                  rw [textSum_take hx.out]
                  rcases List.mem_append.1 hs with h | h
                  · have := htx.out s h; omega
                  · simp at h; subst h; show x.text.length ≤ _; omega
                have hattr4 : Hid (∀ s ∈ S ++ [(x, A2, c2)], AttrsOwn w4 w.heap.size s.2.1 s.2.2 s.1.attrs) := fun s hs => own_grown (World.ownsRow.alloc (hattr3.out s hs) _) (World.ownsRow.alloc hown3 _) (by decide) hg4
                have hb4' : Below w.heap.size w w4 := hbel.trans ((hb3.mono hzr).trans hb4)
                have HIN4 : Hid (List.foldl nstep ((S ++ [(x, A2, c2)]).map (·.1)) (l.drop (k + 1)) = N) := by
                  show _ = _
                  rw [List.map_append]
                  exact HIN.out
                clear hown4 hg4
                go_wp2_with fail
                go_roundw
                case rel => exact ⟨k + 1, S ++ [(x, A2, c2)], a4, c4, m + 1, by omega, by go_num, rfl, by show _ = _; rw [List.length_append, hm.out]; rfl, by omega, htx4, hown4', hattr4, HIN4, hb4'⟩
                case measure => simp [intOf]; omega
      · have t1 : (x.kind != 2) = true := by simp [hk2]
        have HIN : Hid (List.foldl nstep (S.map (·.1) ++ [x]) (l.drop (k + 1)) = N) := by
          show _ = _
          rw [← hin', nstep_app (fun h => hk2 h.1) (fun _ _ h => hk2 h.1)]
        clear hin' hk2
        go_wp2_with fail
        obtain ⟨W1, hW1⟩ : ∃ W1, Hid (W1 = wr.alloc (.cells #[.int .i64 x.level, .int .i64 x.kind, .string ⟨x.name.toArray⟩, .string ⟨x.text.toArray⟩, .slice A' x.attrs.length c'] 30)) := ⟨_, rfl⟩
        obtain ⟨hbW, hzW, hcs⟩ := box_cells (wr := wr) (W1 := W1) (x := x) (A' := A') (c' := c') (.inl hW1.out)
        have HCS := Lib.hid hcs
        have HZW := Lib.hid hzW
        have hzW' : wr.heap.size < W1.heap.size := by omega
        obtain ⟨⟨b0, b1, b2, b3, b4⟩, bf⟩ := hcs W1 (Below.refl _ _)
        have bf4 := bf 4
        clear hcs hzW bf h0 h1 h2 h3 h4
        rw [← hW1.out]
        go_wp2_with fail
        refine (Clone_any x.attrs A' c' _ ((HAT.out.below hbW).more (Nat.le_of_lt hzW')) hsx.out.2.2.1).mono ?_
        rintro e w2 ⟨A2, c2, rfl, hcl, hb2⟩
        have HCL := Lib.hid hcl
        clear hcl b0 b1 b2 b3 b4 bf4
        obtain ⟨⟨b0, b1, b2, b3, b4⟩, bf⟩ := HCS.out w2 hb2
        have bf4 := bf 4
        have hz2 := hb2.size
        clear bf
        obtain ⟨W3, hW3⟩ : ∃ W3, Hid (W3 = w2.setCell ⟨wr.heap.size, 4, none⟩ (.slice A2 x.attrs.length c2)) := ⟨_, rfl⟩
        have hb3 : Below wr.heap.size wr W3 := by rw [hW3.out]; exact (hbW.trans (hb2.mono (Nat.le_of_lt hzW'))).setCell (Nat.le_refl _) _
        have hz3 : wr.heap.size < W3.heap.size := by rw [hW3.out]; simp; omega
        have hown3 : W3.ownsRow w.heap.size 30 5 (.slice ad m cp) m (S.flatMap cellsI) := by rw [← hm.out]; exact hown.out.keepB hb3
        have hattr3 : Hid (∀ s ∈ S ++ [(x, A2, c2)], AttrsOwn W3 w.heap.size s.2.1 s.2.2 s.1.attrs) := fun s hs => by
          rcases List.mem_append.1 hs with h | h
          · exact (hattr.out s h).keepB hb3
          · simp at h; subst h
            rw [hW3.out]
            exact own_base (ownsRow_setCell_below HCL.out (by show wr.heap.size < _; exact hzW') _) (by omega)
        go_wp2_with (at_builtin; rw [← hW3.out]; go_loud (refine appendS rfl (.tmp 59) (.tmp 61) 22 rfl w.heap.size 30 (.agg #[.int .i64 0, .int .i64 0, .string ByteArray.empty, .string ByteArray.empty, .slice none 0 0]) 5 72 Try.underlying22 infoItem rfl (by decide) _ m _ (cellsI (x, A2, c2)) rfl hown3 (by omega) _ rfl (by rw [hW3.out]; simp) (cellsI_length _) (cellsI_one _) (by omega) (by decide) ?_))
        intro a4 c4 w4 hown4 hb4 hz4 hg4
        have hown4' : ItemsOwn w4 w.heap.size a4 c4 (S ++ [(x, A2, c2)]) := by
          unfold ItemsOwn
          rw [List.length_append, List.flatMap_append, hm.out]
          simpa using hown4
        have htx4 : Hid (∀ s ∈ S ++ [(x, A2, c2)], s.1.text.length ≤ textSum (l.take (k + 1))) := fun s hs => by
          rw [textSum_take hx.out]
          rcases List.mem_append.1 hs with h | h
          · have := htx.out s h; omega
          · simp at h; subst h; show x.text.length ≤ _; omega
        have hattr4 : Hid (∀ s ∈ S ++ [(x, A2, c2)], AttrsOwn w4 w.heap.size s.2.1 s.2.2 s.1.attrs) := fun s hs => own_grown (World.ownsRow.alloc (hattr3.out s hs) _) (World.ownsRow.alloc hown3 _) (by decide) hg4
        have hb4' : Below w.heap.size w w4 := hbel.trans ((hb3.mono hzr).trans hb4)
        have HIN4 : Hid (List.foldl nstep ((S ++ [(x, A2, c2)]).map (·.1)) (l.drop (k + 1)) = N) := by
          show _ = _
          rw [List.map_append]
          exact HIN.out
        clear hown4 hg4
        go_wp2_with fail
        go_roundw
        case rel => exact ⟨k + 1, S ++ [(x, A2, c2)], a4, c4, m + 1, by omega, by go_num, rfl, by show _ = _; rw [List.length_append, hm.out]; rfl, by omega, htx4, hown4', hattr4, HIN4, hb4'⟩
        case measure => simp [intOf]; omega
    · have HIN : Hid (S.map (·.1) = N) := by
        show _ = _
        rw [← hin.out, List.drop_eq_nil_of_le (by omega)]; rfl
      have hk' : k = l.length := by omega
      subst hk'
      clear hin hlt hk
      go_wp2_with fail
      go_ret
      exact ⟨⟨ad, cp, S, by rw [hm.out]; rfl, hown.out, hattr.out, HIN.out⟩, hbel⟩
end Go.Proofs.Ytiopijjlkmpikaa
