/-
  Texts of this claim, joined (by a program of the claim's author): Norm, Put, DocPlain, FitPlain, Check, Print, Aliv5, LawI.
-/
import Derived.Test.YthifddkmbjnncaaS1
import Derived.Test.YthifddkmbjnncaaS3
import Derived.Deep.RegionHeld3
import Derived.StillTailTactics
import Derived.Test.YthifddkmbjnncaaS2
import Derived.Laws.EntriesVeiled
/-
  The walk of scribe.Normal.
-/
namespace Go.Proofs.Ythifddkmbjnncaa
open Go.RowKit

/-- Items of the call's own, with their attributes. -/
structure NormPost (w : World) (N : List ItemD) (e : Ending) (w' : World) : Prop where
  out : ∃ A c S, e = .returned (.slice A S.length c) ∧ ItemsOwn w' w.heap.size A c S ∧ (∀ s ∈ S, AttrsOwn w' w.heap.size s.2.1 s.2.2 s.1.attrs) ∧ S.map (·.1) = N
  below : Below w.heap.size w w'

theorem AttrsOwn.keepB {w w' : World} {B : Nat} {A : Option Addr} {c : Nat} {l : List AttrD} (h : AttrsOwn w B A c l) (hb : Below w.heap.size w w') : AttrsOwn w' B A c l := own_below h hb
theorem ItemsOwn.keepB {w w' : World} {B : Nat} {A : Option Addr} {c : Nat} {S : List Slot} (h : ItemsOwn w B A c S) (hb : Below w.heap.size w w') : ItemsOwn w' B A c S := own_below h hb

theorem cellsI_one (s : Slot) : ∀ u ∈ cellsI s, u.oneCell' = true := by
  intro u hu
  simp [cellsI, strV] at hu
  rcases hu with rfl | rfl | rfl | rfl | rfl <;> rfl

theorem own_base {w : World} {B B' : Nat} {e : TypeId} {size : Nat} {v : Value} {n : Nat} {xs : List Value} (h : w.ownsRow B e size v n xs) (hB : B' ≤ B) : w.ownsRow B' e size v n xs := by
  refine ⟨h.1, ?_⟩
  rcases h.2 with h | ⟨g, cap, cur, h1, h2, h3⟩
  · exact .inl h
  · exact .inr ⟨g, cap, cur, h1, by omega, h3⟩

theorem add_plus (ad : Addr) (a j : Nat) (hj : j ≠ 0) : ad.add (a + j) = ⟨(ad.add a).block, (ad.add a).off + j, none⟩ := by
  rw [← add_of_add]
  generalize ad.add a = b
  unfold Addr.add
  rw [if_neg hj]

/-- The cells of an item that lies in a block of its own. -/
theorem box_cells {wr W1 : World} {x : ItemD} {A' : Option Addr} {c' : Nat} (h : W1 = wr.alloc (.cells #[.int .i64 x.level, .int .i64 x.kind, .string ⟨x.name.toArray⟩, .string ⟨x.text.toArray⟩, .slice A' x.attrs.length c'] 50) ∨ W1 = (wr.alloc (.cells #[.int .i64 x.level, .int .i64 x.kind, .string ⟨x.name.toArray⟩, .string ⟨x.text.toArray⟩, .slice A' x.attrs.length c'] 50)).drew) :
    Below wr.heap.size wr W1 ∧ W1.heap.size = wr.heap.size + 1 ∧ ∀ w', Below W1.heap.size W1 w' → (w'.cell? ⟨wr.heap.size, 0, none⟩ = some (.int .i64 x.level) ∧ w'.cell? ⟨wr.heap.size, 1, none⟩ = some (.int .i64 x.kind) ∧ w'.cell? ⟨wr.heap.size, 2, none⟩ = some (.string ⟨x.name.toArray⟩) ∧ w'.cell? ⟨wr.heap.size, 3, none⟩ = some (.string ⟨x.text.toArray⟩) ∧ w'.cell? ⟨wr.heap.size, 4, none⟩ = some (.slice A' x.attrs.length c')) ∧ ∀ j, w'.frozen? ⟨wr.heap.size, j, none⟩ = false := by
  have hz : W1.heap.size = wr.heap.size + 1 := by rcases h with rfl | rfl <;> simp
  have hb : Below wr.heap.size wr W1 := by
    rcases h with rfl | rfl
    · exact (Below.refl _ wr).alloc (Nat.le_refl _) _
    · exact ((Below.refl _ wr).alloc (Nat.le_refl _) _).drew
  refine ⟨hb, hz, fun w' hb' => ⟨?_, fun j => ?_⟩⟩
  · have key : ∀ j u, (#[.int .i64 x.level, .int .i64 x.kind, .string ⟨x.name.toArray⟩, .string ⟨x.text.toArray⟩, .slice A' x.attrs.length c'] : Array Value)[j]? = some u → w'.cell? ⟨wr.heap.size, j, none⟩ = some u := fun j u hu => by
      rw [hb'.cell (p := ⟨wr.heap.size, j, none⟩) (by rw [hz]; exact Nat.lt_succ_self _)]
      have hj := (Array.getElem?_eq_some_iff.1 hu).1
      rcases h with rfl | rfl
      · rw [World.cell?_alloc_at _ _ _ _ rfl]; exact hu
      · show (wr.alloc _).cell? _ = _
        rw [World.cell?_alloc_at _ _ _ _ rfl]; exact hu
    exact ⟨key 0 _ rfl, key 1 _ rfl, key 2 _ rfl, key 3 _ rfl, key 4 _ rfl⟩
  · rw [hb'.frozen (p := ⟨wr.heap.size, j, none⟩) (by rw [hz]; exact Nat.lt_succ_self _)]
    rcases h with rfl | rfl
    · exact frozen_of_row _ _ j _ _ (heap_alloc_new wr _)
    · exact frozen_of_row (wr.alloc _) _ j _ _ (heap_alloc_new wr _)


set_option maxRecDepth 100000 in
set_option maxHeartbeats 4000000 in
theorem Normal_any (l : List ItemD) (A : Option Addr) (c : Nat) (w : World) (hA : ItemsAt w w.heap.size A l) (hs : SmallDoc l) (N : List ItemD) (hN : Hid (normalL l = N)) :
    Calls Try.prog 35 #[.slice A l.length c] w (NormPost w N) := by
  obtain ⟨⟨hs1, hs2⟩, hs3⟩ := hs
  have HS := Lib.hid hs2
  have HT := Lib.hid hs3
  have HA := Lib.hid hA
  clear hs2 hA hs3
  have hN0 : Hid ((l.drop 0).foldl nstep (([] : List Slot).map (·.1)) = N) := hN
  clear hN
  go_enter Try.func35, Try.ntmps35
  go_wp2_with fail
  go_loopw [3, 9] (fun o i wr => ∃ (k : Nat) (S : List Slot) (ad : Option Addr) (cp m : Nat), k ≤ l.length ∧ i = .int .i64 k ∧ o = .slice ad m cp ∧ Hid (S.length = m) ∧ m ≤ k ∧ Hid (∀ s ∈ S, s.1.text.length ≤ textSum (l.take k)) ∧ Hid (ItemsOwn wr w.heap.size ad cp S) ∧ Hid (∀ s ∈ S, AttrsOwn wr w.heap.size s.2.1 s.2.2 s.1.attrs) ∧
      Hid ((l.drop k).foldl nstep (S.map (·.1)) = N) ∧ Below w.heap.size w wr) (fun _ i _ => l.length - (intOf i).toNat)
  case atStart => exact ⟨0, [], none, 0, 0, Nat.zero_le _, rfl, rfl, rfl, Nat.le_refl _, (fun _ h => absurd h List.not_mem_nil : ∀ s ∈ ([] : List Slot), s.1.text.length ≤ textSum (l.take 0)), World.ownsRow_nil _ _ _ _, (fun _ h => absurd h List.not_mem_nil : ∀ s ∈ ([] : List Slot), AttrsOwn w w.heap.size s.2.1 s.2.2 s.1.attrs), hN0, Below.refl _ _⟩
  case round =>
    obtain ⟨k, S, ad, cp, m, hk, rfl, rfl, hm, hmk, htx, hown, hattr, hin, hbel⟩ := hrel
    have hzr := hbel.size
    by_cases hlt : k < l.length
    · obtain ⟨x, hx⟩ : ∃ x, Hid (l[k]? = some x) := ⟨l[k], List.getElem?_eq_getElem _⟩
      have hAr := HA.out.below hbel
      obtain ⟨xd, hAd, _, _⟩ := hAr (by omega)
      subst hAd
      obtain ⟨hab, A', c', hat, _, h0, h1, h2, h3, h4⟩ := hAr.item hx.out
      unfold strV at h2 h3
      have hab1 : (xd.add (k * 5)).block < wr.heap.size := by rw [block_of_add]; omega
      have HAT := Lib.hid (hat.more hzr)
      clear hat hAr
      have hsx := Lib.hid (HS.out k x hx.out)
      have hlt' : (k : Int) < l.length := by omega
      have hin' := hin.out
      rw [drop_cons hx.out, List.foldl_cons] at hin'
      clear hin
      by_cases hk2 : x.kind = 2
      · have t1 : (x.kind != 2) = false := by simp [hk2]
        by_cases ht0 : x.text = []
        · -- a text without a byte
          have t2 : (x.text == []) = true := by simp [ht0]
          rw [nstep_void hk2 ht0] at hin'
          have HIN := Lib.hid hin'
          have htx' : Hid (∀ s ∈ S, s.1.text.length ≤ textSum (l.take (k + 1))) := fun s hs => by have := htx.out s hs; rw [textSum_take hx.out]; omega
          clear hin' hk2 ht0
          go_wp2_with fail
          go_roundw
          case rel => exact ⟨k + 1, S, ad, cp, m, by omega, by go_num, rfl, hm, by omega, htx', hown.out.alloc _, fun s hs => (hattr.out s hs).alloc _, HIN, hbel.alloc hzr _⟩
          case measure => simp [intOf]; omega
        · have t2 : (x.text == []) = false := by simp [ht0]
          by_cases hm0 : m = 0
          · have HIN : Hid (List.foldl nstep (S.map (·.1) ++ [x]) (l.drop (k + 1)) = N) := by
              show _ = _
              have hSn : S = [] := List.eq_nil_of_length_eq_zero (by rw [hm.out]; exact hm0)
              rw [← hin', nstep_app (fun h => ht0 h.2) (fun p hp => by rw [hSn] at hp; cases hp)]
            have d1 : decide ((0 : Int) ≤ (m : Int) - 1) = false := by simp; omega
            have d2 : decide ((1 : Int) ≤ (m : Int)) = false := by simp; omega
            have d3 : decide (1 ≤ m) = false := by simp; omega
            clear hin' hk2 ht0 hm0
            go_wp2_with fail
            refine wp_region_held_drew (S := fun _ => True) (by kernel_rfl) trivial (fun hHeld => ?_)
            refine tks (oi := ⟨_, _, _, _, _, _⟩) (v := ?_) 0 rfl (.inl ⟨by rfl, ?_⟩) ?_; rotate_left
            · (intro wS hSw; (try dsimp only at hSw); go_simp); all_goals with_reducible rfl
            try go_frame
            refine tks (oi := ⟨_, _, _, _, _, _⟩) (v := ?_) 1 rfl (.inl ⟨by rfl, ?_⟩) ?_; rotate_left
            · (intro wS hSw; (try dsimp only at hSw); go_simp); all_goals with_reducible rfl
            try go_frame
            refine tks (oi := ⟨_, _, _, _, _, _⟩) (v := ?_) 2 rfl (.inl ⟨by rfl, ?_⟩) ?_; rotate_left
            · (intro wS hSw; (try dsimp only at hSw); go_simp); all_goals with_reducible rfl
            try go_frame
            refine tks (oi := ⟨_, _, _, _, _, _⟩) (v := undef) 3 rfl (.inr ⟨by rfl, rfl⟩) ?_
            try go_frame
            refine tks (oi := ⟨_, _, _, _, _, _⟩) (v := undef) 4 rfl (.inr ⟨by rfl, rfl⟩) ?_
            try go_frame
            refine tks (oi := ⟨_, _, _, _, _, _⟩) (v := undef) 5 rfl (.inr ⟨by rfl, rfl⟩) ?_
            try go_frame
            refine tks (oi := ⟨_, _, _, _, _, _⟩) (v := undef) 6 rfl (.inr ⟨by rfl, rfl⟩) ?_
            try go_frame
            refine tks (oi := ⟨_, _, _, _, _, _⟩) (v := undef) 7 rfl (.inr ⟨by rfl, rfl⟩) ?_
            try go_frame
            refine tks (oi := ⟨_, _, _, _, _, _⟩) (v := undef) 8 rfl (.inr ⟨by rfl, rfl⟩) ?_
            try go_frame
            refine tks (oi := ⟨_, _, _, _, _, _⟩) (v := ?_) 9 rfl (.inl ⟨by rfl, ?_⟩) ?_; rotate_left
            · (intro wS hSw; (try dsimp only at hSw); go_simp); all_goals with_reducible rfl
            try go_frame
            refine tks (oi := ⟨_, _, _, _, _, _⟩) (v := ?_) 10 rfl (.inl ⟨by rfl, ?_⟩) ?_; rotate_left
            · (intro wS hSw; (try dsimp only at hSw); go_simp); all_goals with_reducible rfl
            try go_frame
            refine tks (oi := ⟨_, _, _, _, _, _⟩) (v := undef) 11 rfl (.inr ⟨by rfl, rfl⟩) ?_
            try go_frame
            refine tks (oi := ⟨_, _, _, _, _, _⟩) (v := undef) 12 rfl (.inr ⟨by rfl, rfl⟩) ?_
            try go_frame
            refine tks (oi := ⟨_, _, _, _, _, _⟩) (v := undef) 13 rfl (.inr ⟨by rfl, rfl⟩) ?_
            try go_frame
            refine tks (oi := ⟨_, _, _, _, _, _⟩) (v := undef) 14 rfl (.inr ⟨by rfl, rfl⟩) ?_
            try go_frame
            refine tks (oi := ⟨_, _, _, _, _, _⟩) (v := undef) 15 rfl (.inr ⟨by rfl, rfl⟩) ?_
            try go_frame
            refine tks (oi := ⟨_, _, _, _, _, _⟩) (v := undef) 16 rfl (.inr ⟨by rfl, rfl⟩) ?_
            try go_frame
            refine tks (oi := ⟨_, _, _, _, _, _⟩) (v := undef) 17 rfl (.inr ⟨by rfl, rfl⟩) ?_
            try go_frame
            refine tks (oi := ⟨_, _, _, _, _, _⟩) (v := undef) 18 rfl (.inr ⟨by rfl, rfl⟩) ?_
            try go_frame
            refine tks (oi := ⟨_, _, _, _, _, _⟩) (v := ?_) 19 rfl (.inl ⟨by rfl, ?_⟩) ?_; rotate_left
            · (intro wS hSw; (try dsimp only at hSw); go_simp); all_goals with_reducible rfl
            try go_frame
            refine tks (oi := ⟨_, _, _, _, _, _⟩) (v := ?_) 20 rfl (.inl ⟨by rfl, ?_⟩) ?_; rotate_left
            · (intro wS hSw; (try dsimp only at hSw); go_simp); all_goals with_reducible rfl
            try go_frame
            refine wpAnyH_done (by kernel_rfl) ?_ _
            clear hHeld d1 d2 d3
            go_wp2_with fail
            obtain ⟨W1, hW1⟩ : ∃ W1, Hid (W1 = (wr.alloc (.cells #[.int .i64 x.level, .int .i64 x.kind, .string ⟨x.name.toArray⟩, .string ⟨x.text.toArray⟩, .slice A' x.attrs.length c'] 50)).drew) := ⟨_, rfl⟩
            obtain ⟨hbW, hzW, hcs⟩ := box_cells (wr := wr) (W1 := W1) (x := x) (A' := A') (c' := c') (.inr hW1.out)
            have HCS := Lib.hid hcs
            have HZW := Lib.hid hzW
            have hzW' : wr.heap.size < W1.heap.size := by omega
            obtain ⟨⟨b0, b1, b2, b3, b4⟩, bf⟩ := hcs W1 (Below.refl _ _)
            have bf4 := bf 4
            clear hcs hzW bf h0 h1 h2 h3 h4
            rw [← hW1.out]
            go_wp2_with fail
            refine (Clone_any x.attrs A' c' _ ((HAT.out.below hbW).more (Nat.le_of_lt hzW')) hsx.out.2.2.1).mono ?_
            rintro e w2 ⟨A2, c2, rfl, hcl, hb2⟩
            have HCL := Lib.hid hcl
            clear hcl b0 b1 b2 b3 b4 bf4
            obtain ⟨⟨b0, b1, b2, b3, b4⟩, bf⟩ := HCS.out w2 hb2
            have bf4 := bf 4
            have hz2 := hb2.size
            clear bf
            obtain ⟨W3, hW3⟩ : ∃ W3, Hid (W3 = w2.setCell ⟨wr.heap.size, 4, none⟩ (.slice A2 x.attrs.length c2)) := ⟨_, rfl⟩
            have hb3 : Below wr.heap.size wr W3 := by rw [hW3.out]; exact (hbW.trans (hb2.mono (Nat.le_of_lt hzW'))).setCell (Nat.le_refl _) _
            have hz3 : wr.heap.size < W3.heap.size := by rw [hW3.out]; simp; omega
            have hown3 : W3.ownsRow w.heap.size 50 5 (.slice ad m cp) m (S.flatMap cellsI) := by rw [← hm.out]; exact hown.out.keepB hb3
            have hattr3 : Hid (∀ s ∈ S ++ [(x, A2, c2)], AttrsOwn W3 w.heap.size s.2.1 s.2.2 s.1.attrs) := fun s hs => by
              rcases List.mem_append.1 hs with h | h
              · exact (hattr.out s h).keepB hb3
              · simp at h; subst h
                rw [hW3.out]
                exact own_base (ownsRow_setCell_below HCL.out (by show wr.heap.size < _; exact hzW') _) (by omega)
            go_wp2_with (at_builtin; rw [← hW3.out]; go_loud (refine appendS rfl (.tmp 59) (.tmp 61) 45 rfl w.heap.size 50 (.agg #[.int .i64 0, .int .i64 0, .string ByteArray.empty, .string ByteArray.empty, .slice none 0 0]) 5 72 Try.underlying45 infoItem rfl (by decide) _ m _ (cellsI (x, A2, c2)) rfl hown3 (by omega) _ rfl (by rw [hW3.out]; simp) (cellsI_length _) (cellsI_one _) (by omega) (by decide) ?_))
            intro a4 c4 w4 hown4 hb4 hz4 hg4
            have hown4' : ItemsOwn w4 w.heap.size a4 c4 (S ++ [(x, A2, c2)]) := by
              unfold ItemsOwn
              rw [List.length_append, List.flatMap_append, hm.out]
              simpa using hown4
            have htx4 : Hid (∀ s ∈ S ++ [(x, A2, c2)], s.1.text.length ≤ textSum (l.take (k + 1))) := fun s hs => by
              rw [textSum_take hx.out]
              rcases List.mem_append.1 hs with h | h
              · have := htx.out s h; omega
              · simp at h; subst h; show x.text.length ≤ _; omega
            have hattr4 : Hid (∀ s ∈ S ++ [(x, A2, c2)], AttrsOwn w4 w.heap.size s.2.1 s.2.2 s.1.attrs) := fun s hs => own_grown (World.ownsRow.alloc (hattr3.out s hs) _) (World.ownsRow.alloc hown3 _) (by decide) hg4
            have hb4' : Below w.heap.size w w4 := hbel.trans ((hb3.mono hzr).trans hb4)
            have HIN4 : Hid (List.foldl nstep ((S ++ [(x, A2, c2)]).map (·.1)) (l.drop (k + 1)) = N) := by
              show _ = _
              rw [List.map_append]
              exact HIN.out
            clear hown4 hg4
            go_wp2_with fail
            go_roundw
            case rel => exact ⟨k + 1, S ++ [(x, A2, c2)], a4, c4, m + 1, by omega, by go_num, rfl, by show _ = _; rw [List.length_append, hm.out]; rfl, by omega, htx4, hown4', hattr4, HIN4, hb4'⟩
            case measure => simp [intOf]; omega
          · have hm1 : 0 < m := by omega
            have hlast : S[m - 1]? = some (S[m - 1]'(by rw [hm.out]; omega)) := List.getElem?_eq_getElem _
            obtain ⟨s, hs⟩ : ∃ s, Hid (S[m - 1]? = some s) := ⟨_, hlast⟩
            obtain ⟨g, hag, _, hgz, _, hgc⟩ := own_flat cellsI cellsI_length hown.out (by rw [hm.out]; exact hm1)
            obtain ⟨gd, hgd⟩ : ∃ gd : Addr, Hid (gd = ⟨g, 0, none⟩) := ⟨_, rfl⟩
            rw [← hgd.out] at hag hgc
            subst hag
            have hgb : gd.block < wr.heap.size := by rw [hgd.out]; exact hgz
            have pc0 := hgc (m - 1) s 0 _ hs.out rfl
            have pc1 := hgc (m - 1) s 1 _ hs.out rfl
            have pc3 := hgc (m - 1) s 3 _ hs.out rfl
            rw [add_plus _ _ _ (by decide)] at pc1 pc3
            rw [Nat.add_zero] at pc0
            have hprev : (S.map (·.1))[(S.map (·.1)).length - 1]? = some s.1 := by rw [List.length_map, hm.out, List.getElem?_map, hs.out]; rfl
            have d1 : decide ((0 : Int) ≤ (m : Int) - 1) = true := by simp; omega
            have d2 : decide ((1 : Int) ≤ (m : Int)) = true := by simp; omega
            have d3 : decide (1 ≤ m) = true := by simp; omega
            have i1 : (1 : Int) ≤ (m : Int) := by omega
            have i0 : (0 : Int) ≤ (m : Int) - 1 := by omega
            have i2 : (m : Int) - 1 < (m : Int) := by omega
            have kn : ((m : Int) - 1).toNat = m - 1 := by omega
            have HSS : Hid (∀ w', Below wr.heap.size wr w' → w'.cell? ⟨wr.heap.size, 0, none⟩ = some (.int .i64 x.level) → w'.cell? ⟨wr.heap.size, 3, none⟩ = some (.string ⟨x.text.toArray⟩) → (fun w' => w'.cell? (gd.add ((m - 1) * 5)) = some (.int .i64 s.1.level) ∧ w'.cell? ⟨(gd.add ((m - 1) * 5)).block, (gd.add ((m - 1) * 5)).off + 1, none⟩ = some (.int .i64 s.1.kind) ∧ w'.cell? ⟨(gd.add ((m - 1) * 5)).block, (gd.add ((m - 1) * 5)).off + 3, none⟩ = some (.string ⟨s.1.text.toArray⟩) ∧ w'.cell? ⟨wr.heap.size, 0, none⟩ = some (.int .i64 x.level) ∧ w'.cell? ⟨wr.heap.size, 3, none⟩ = some (.string ⟨x.text.toArray⟩)) w') := fun w' hb e0 e3 =>
              ⟨by rw [hb.cell (by rw [block_of_add]; exact hgb)]; exact pc0, by rw [hb.cell (by show (gd.add _).block < _; rw [block_of_add]; exact hgb)]; exact pc1, by rw [hb.cell (by show (gd.add _).block < _; rw [block_of_add]; exact hgb)]; exact pc3, e0, e3⟩
            have HW : Hid ((fun w' => w'.cell? (gd.add ((m - 1) * 5)) = some (.int .i64 s.1.level) ∧ w'.cell? ⟨(gd.add ((m - 1) * 5)).block, (gd.add ((m - 1) * 5)).off + 1, none⟩ = some (.int .i64 s.1.kind) ∧ w'.cell? ⟨(gd.add ((m - 1) * 5)).block, (gd.add ((m - 1) * 5)).off + 3, none⟩ = some (.string ⟨s.1.text.toArray⟩) ∧ w'.cell? ⟨wr.heap.size, 0, none⟩ = some (.int .i64 x.level) ∧ w'.cell? ⟨wr.heap.size, 3, none⟩ = some (.string ⟨x.text.toArray⟩)) (wr.alloc (.cells #[.int .i64 x.level, .int .i64 x.kind, .string ⟨x.name.toArray⟩, .string ⟨x.text.toArray⟩, .slice A' x.attrs.length c'] 50)).drew) := HSS.out _ ((Below.refl _ wr).alloc (Nat.le_refl _) _).drew (by show (wr.alloc _).cell? _ = _; rw [World.cell?_alloc_at _ _ _ _ rfl]; rfl) (by show (wr.alloc _).cell? _ = _; rw [World.cell?_alloc_at _ _ _ _ rfl]; rfl)
            clear pc0 pc1 pc3 hgc
            by_cases hj : s.1.kind = 2 ∧ s.1.level = x.level
            · obtain ⟨hj1, hj2⟩ := hj
              have d4 : (s.1.kind == 2) = true := by simp [hj1]
              have d5 : (s.1.level == x.level) = true := by simp [hj2]
              rw [nstep_join hprev hk2 ht0 hj1 hj2] at hin'
              have HIN := Lib.hid hin'
              clear hin' hj1 hj2 hk2 ht0 hprev hlast
              go_wp2_with fail
              refine wp_region_held_drew (S := fun w' => w'.cell? (gd.add ((m - 1) * 5)) = some (.int .i64 s.1.level) ∧ w'.cell? ⟨(gd.add ((m - 1) * 5)).block, (gd.add ((m - 1) * 5)).off + 1, none⟩ = some (.int .i64 s.1.kind) ∧ w'.cell? ⟨(gd.add ((m - 1) * 5)).block, (gd.add ((m - 1) * 5)).off + 3, none⟩ = some (.string ⟨s.1.text.toArray⟩) ∧ w'.cell? ⟨wr.heap.size, 0, none⟩ = some (.int .i64 x.level) ∧ w'.cell? ⟨wr.heap.size, 3, none⟩ = some (.string ⟨x.text.toArray⟩)) (by kernel_rfl) HW.out (fun hHeld => ?_)
              refine tks (oi := ⟨_, _, _, _, _, _⟩) (v := ?_) 0 rfl (.inl ⟨by rfl, ?_⟩) ?_; rotate_left
              · (intro wS hSw; (try dsimp only at hSw); go_simp); all_goals with_reducible rfl
              try go_frame
              refine tks (oi := ⟨_, _, _, _, _, _⟩) (v := ?_) 1 rfl (.inl ⟨by rfl, ?_⟩) ?_; rotate_left
              · (intro wS hSw; (try dsimp only at hSw); go_simp); all_goals with_reducible rfl
              try go_frame
              refine tks (oi := ⟨_, _, _, _, _, _⟩) (v := ?_) 2 rfl (.inl ⟨by rfl, ?_⟩) ?_; rotate_left
              · (intro wS hSw; (try dsimp only at hSw); go_simp); all_goals with_reducible rfl
              try go_frame
              refine tks (oi := ⟨_, _, _, _, _, _⟩) (v := ?_) 3 rfl (.inl ⟨by rfl, ?_⟩) ?_; rotate_left
              · (intro wS hSw; (try dsimp only at hSw); go_simp); all_goals with_reducible rfl
              try go_frame
              refine tks (oi := ⟨_, _, _, _, _, _⟩) (v := ?_) 4 rfl (.inl ⟨by rfl, ?_⟩) ?_; rotate_left
              · (intro wS hSw; (try dsimp only at hSw); go_simp); all_goals with_reducible rfl
              try go_frame
              refine tks (oi := ⟨_, _, _, _, _, _⟩) (v := ?_) 5 rfl (.inl ⟨by rfl, ?_⟩) ?_; rotate_left
              · (intro wS hSw; (try dsimp only at hSw); go_simp); all_goals with_reducible rfl
              try go_frame
              refine tks (oi := ⟨_, _, _, _, _, _⟩) (v := ?_) 6 rfl (.inl ⟨by rfl, ?_⟩) ?_; rotate_left
              · (intro wS hSw; (try dsimp only at hSw); go_simp); all_goals with_reducible rfl
              try go_frame
              refine tks (oi := ⟨_, _, _, _, _, _⟩) (v := ?_) 7 rfl (.inl ⟨by rfl, ?_⟩) ?_; rotate_left
              · (intro wS hSw; (try dsimp only at hSw); go_simp); all_goals with_reducible rfl
              try go_frame
              refine tks (oi := ⟨_, _, _, _, _, _⟩) (v := ?_) 8 rfl (.inl ⟨by rfl, ?_⟩) ?_; rotate_left
              · (intro wS hSw; (try dsimp only at hSw); go_simp); all_goals with_reducible rfl
              try go_frame
              refine tks (oi := ⟨_, _, _, _, _, _⟩) (v := ?_) 9 rfl (.inl ⟨by rfl, ?_⟩) ?_; rotate_left
              · (intro wS hSw; (try dsimp only at hSw); go_simp); all_goals with_reducible rfl
              try go_frame
              refine tks (oi := ⟨_, _, _, _, _, _⟩) (v := ?_) 10 rfl (.inl ⟨by rfl, ?_⟩) ?_; rotate_left
              · (intro wS hSw; (try dsimp only at hSw); go_simp); all_goals with_reducible rfl
              try go_frame
              refine tks (oi := ⟨_, _, _, _, _, _⟩) (v := ?_) 11 rfl (.inl ⟨by rfl, ?_⟩) ?_; rotate_left
              · (intro wS hSw; (try dsimp only at hSw); go_simp); all_goals with_reducible rfl
              try go_frame
              refine tks (oi := ⟨_, _, _, _, _, _⟩) (v := ?_) 12 rfl (.inl ⟨by rfl, ?_⟩) ?_; rotate_left
              · (intro wS hSw; (try dsimp only at hSw); go_simp); all_goals with_reducible rfl
              try go_frame
              refine tks (oi := ⟨_, _, _, _, _, _⟩) (v := ?_) 13 rfl (.inl ⟨by rfl, ?_⟩) ?_; rotate_left
              · (intro wS hSw; (try dsimp only at hSw); go_simp); all_goals with_reducible rfl
              try go_frame
              refine tks (oi := ⟨_, _, _, _, _, _⟩) (v := ?_) 14 rfl (.inl ⟨by rfl, ?_⟩) ?_; rotate_left
              · (intro wS hSw; (try dsimp only at hSw); go_simp); all_goals with_reducible rfl
              try go_frame
              refine tks (oi := ⟨_, _, _, _, _, _⟩) (v := ?_) 15 rfl (.inl ⟨by rfl, ?_⟩) ?_; rotate_left
              · (intro wS hSw; (try dsimp only at hSw); go_simp); all_goals with_reducible rfl
              try go_frame
              refine tks (oi := ⟨_, _, _, _, _, _⟩) (v := ?_) 16 rfl (.inl ⟨by rfl, ?_⟩) ?_; rotate_left
              · (intro wS hSw; (try dsimp only at hSw); go_simp); all_goals with_reducible rfl
              try go_frame
              refine tks (oi := ⟨_, _, _, _, _, _⟩) (v := ?_) 17 rfl (.inl ⟨by rfl, ?_⟩) ?_; rotate_left
              · (intro wS hSw; (try dsimp only at hSw); go_simp); all_goals with_reducible rfl
              try go_frame
              refine tks (oi := ⟨_, _, _, _, _, _⟩) (v := ?_) 18 rfl (.inl ⟨by rfl, ?_⟩) ?_; rotate_left
              · (intro wS hSw; (try dsimp only at hSw); go_simp); all_goals with_reducible rfl
              try go_frame
              refine tks (oi := ⟨_, _, _, _, _, _⟩) (v := ?_) 19 rfl (.inl ⟨by rfl, ?_⟩) ?_; rotate_left
              · (intro wS hSw; (try dsimp only at hSw); go_simp); all_goals with_reducible rfl
              try go_frame
              refine tks (oi := ⟨_, _, _, _, _, _⟩) (v := ?_) 20 rfl (.inl ⟨by rfl, ?_⟩) ?_; rotate_left
              · (intro wS hSw; (try dsimp only at hSw); go_simp); all_goals with_reducible rfl
              try go_frame
              refine wpAnyH_done (by kernel_rfl) ?_ _
              clear hHeld
              go_wp2_with fail
              obtain ⟨W2, hW2⟩ : ∃ W2, Hid (W2 = (wr.alloc (.cells #[.int .i64 x.level, .int .i64 x.kind, .string ⟨x.name.toArray⟩, .string ⟨x.text.toArray⟩, .slice A' x.attrs.length c'] 50)).drew) := ⟨_, rfl⟩
              have HW2 : Hid ((fun w' => w'.cell? (gd.add ((m - 1) * 5)) = some (.int .i64 s.1.level) ∧ w'.cell? ⟨(gd.add ((m - 1) * 5)).block, (gd.add ((m - 1) * 5)).off + 1, none⟩ = some (.int .i64 s.1.kind) ∧ w'.cell? ⟨(gd.add ((m - 1) * 5)).block, (gd.add ((m - 1) * 5)).off + 3, none⟩ = some (.string ⟨s.1.text.toArray⟩) ∧ w'.cell? ⟨wr.heap.size, 0, none⟩ = some (.int .i64 x.level) ∧ w'.cell? ⟨wr.heap.size, 3, none⟩ = some (.string ⟨x.text.toArray⟩)) W2.drew) := by rw [hW2.out]; exact HW.out
              have HF2 : Hid (W2.drew.frozen? ⟨(gd.add ((m - 1) * 5)).block, (gd.add ((m - 1) * 5)).off + 3, none⟩ = false) := by
                have hb : Below wr.heap.size wr W2.drew := by rw [hW2.out]; exact (((Below.refl _ wr).alloc (Nat.le_refl _) _).drew).drew
                show _ = _
                rw [hb.frozen (by show (gd.add _).block < _; rw [block_of_add]; exact hgb), hgd.out, add_zero_block]
                have ho := hown.out
                unfold ItemsOwn at ho
                rw [hgd.out] at ho
                exact ho.frozenAt _
              have h1' := htx.out s (List.mem_of_getElem? hs.out)
              have h2' := textSum_take hx.out
              have h3' := textSum_take_le l (k + 1)
              have h4' := HT.out
              rw [← hW2.out]
              clear h0 h1 h2 h3 h4
              have htl : ¬ (9223372036854775807 < s.1.text.length + x.text.length) := by omega
              obtain ⟨q0, q1, q3, r0, r3⟩ := HW2.out
              have qf := HF2.out
              go_still_tail 10, (by kernel_rfl)
              change wpList _ _ _ _ _ W2.drew
              have hbW2 : Below wr.heap.size wr W2.drew := by rw [hW2.out]; exact (((Below.refl _ wr).alloc (Nat.le_refl _) _).drew).drew
              have hown2 : W2.drew.ownsRow w.heap.size 50 5 (.slice (some ⟨g, 0, none⟩) m cp) m (S.flatMap cellsI) := by
                rw [← hm.out, ← hgd.out]; exact hown.out.keepB hbW2
              have hst := hown2.stored ((m - 1) * 5 + 3) (.string (⟨s.1.text.toArray⟩ ++ ⟨x.text.toArray⟩))
              rw [flat_set cellsI 5 cellsI_length S (m - 1) 3 s ({ s.1 with text := s.1.text ++ x.text }, s.2.1, s.2.2) _ hs.out (by decide) (by rw [str_app]; rfl)] at hst
              have hao : ∀ s' ∈ S, AttrsOwn (W2.drew.setCell ⟨g, (m - 1) * 5 + 3, none⟩ (.string (⟨s.1.text.toArray⟩ ++ ⟨x.text.toArray⟩))) w.heap.size s'.2.1 s'.2.2 s'.1.attrs := fun s' hs' =>
                World.ownsRow.kept ((hattr.out s' hs').keepB hbW2) hst.2 (own_apart ((hattr.out s' hs').keepB hbW2) hown2 (by decide))
              have HST := Lib.hid hst.1
              have HAO := Lib.hid hao
              have hgl : w.heap.size ≤ g := by
                have := (hown2.lt g rfl).1
                exact this
              clear hst hao hown2
              go_wp2_with fail
              have heq : (⟨(gd.add ((m - 1) * 5)).block, (gd.add ((m - 1) * 5)).off + 3, none⟩ : Addr) = ⟨g, (m - 1) * 5 + 3, none⟩ := by rw [hgd.out, add_zero_block]
              rw [heq]
              go_roundw
              case rel =>
                refine ⟨k + 1, S.set (m - 1) ({ s.1 with text := s.1.text ++ x.text }, s.2.1, s.2.2), some gd, cp, m, by omega, by go_num, rfl, by show _ = _; rw [List.length_set]; exact hm.out, by omega, ?_, ?_, ?_, ?_, ?_⟩
                · intro s' hs'
                  rw [textSum_take hx.out]
                  rcases List.mem_or_eq_of_mem_set hs' with h | h
                  · have := htx.out s' h; omega
                  · subst h; simp only [List.length_append]; omega
                · show World.ownsRow _ _ _ _ _ _ _
                  rw [List.length_set, hm.out, hgd.out]
                  exact HST.out
                · intro s' hs'
                  rcases List.mem_or_eq_of_mem_set hs' with h | h
                  · exact HAO.out s' h
                  · subst h; exact HAO.out s (List.mem_of_getElem? hs.out)
                · show _ = _
                  rw [← HIN.out, List.map_set, List.length_map, hm.out]
                · exact (hbel.trans (hbW2.mono hzr)).setCell (by exact hgl) _
              case measure => simp [intOf]; omega
            · have HIN : Hid (List.foldl nstep (S.map (·.1) ++ [x]) (l.drop (k + 1)) = N) := by
                show _ = _
                rw [← hin', nstep_app (fun h => ht0 h.2) (fun p hp => by rw [hprev] at hp; injection hp with hp; subst hp; exact fun h => hj h.2)]
              clear hin' hk2 ht0 hprev hlast
              by_cases hj1 : s.1.kind = 2
              · have d4 : (s.1.kind == 2) = true := by simp [hj1]
                have d5 : (s.1.level == x.level) = false := by
                  have : ¬ s.1.level = x.level := fun h => hj ⟨hj1, h⟩
                  simp [this]
                clear hj hj1
                go_wp2_with fail
                refine wp_region_held_drew (S := fun w' => w'.cell? (gd.add ((m - 1) * 5)) = some (.int .i64 s.1.level) ∧ w'.cell? ⟨(gd.add ((m - 1) * 5)).block, (gd.add ((m - 1) * 5)).off + 1, none⟩ = some (.int .i64 s.1.kind) ∧ w'.cell? ⟨(gd.add ((m - 1) * 5)).block, (gd.add ((m - 1) * 5)).off + 3, none⟩ = some (.string ⟨s.1.text.toArray⟩) ∧ w'.cell? ⟨wr.heap.size, 0, none⟩ = some (.int .i64 x.level) ∧ w'.cell? ⟨wr.heap.size, 3, none⟩ = some (.string ⟨x.text.toArray⟩)) (by kernel_rfl) HW.out (fun hHeld => ?_)
                refine tks (oi := ⟨_, _, _, _, _, _⟩) (v := ?_) 0 rfl (.inl ⟨by rfl, ?_⟩) ?_; rotate_left
                · (intro wS hSw; (try dsimp only at hSw); go_simp); all_goals with_reducible rfl
                try go_frame
                refine tks (oi := ⟨_, _, _, _, _, _⟩) (v := ?_) 1 rfl (.inl ⟨by rfl, ?_⟩) ?_; rotate_left
                · (intro wS hSw; (try dsimp only at hSw); go_simp); all_goals with_reducible rfl
                try go_frame
                refine tks (oi := ⟨_, _, _, _, _, _⟩) (v := ?_) 2 rfl (.inl ⟨by rfl, ?_⟩) ?_; rotate_left
                · (intro wS hSw; (try dsimp only at hSw); go_simp); all_goals with_reducible rfl
                try go_frame
                refine tks (oi := ⟨_, _, _, _, _, _⟩) (v := ?_) 3 rfl (.inl ⟨by rfl, ?_⟩) ?_; rotate_left
                · (intro wS hSw; (try dsimp only at hSw); go_simp); all_goals with_reducible rfl
                try go_frame
                refine tks (oi := ⟨_, _, _, _, _, _⟩) (v := ?_) 4 rfl (.inl ⟨by rfl, ?_⟩) ?_; rotate_left
                · (intro wS hSw; (try dsimp only at hSw); go_simp); all_goals with_reducible rfl
                try go_frame
                refine tks (oi := ⟨_, _, _, _, _, _⟩) (v := ?_) 5 rfl (.inl ⟨by rfl, ?_⟩) ?_; rotate_left
                · (intro wS hSw; (try dsimp only at hSw); go_simp); all_goals with_reducible rfl
                try go_frame
                refine tks (oi := ⟨_, _, _, _, _, _⟩) (v := ?_) 6 rfl (.inl ⟨by rfl, ?_⟩) ?_; rotate_left
                · (intro wS hSw; (try dsimp only at hSw); go_simp); all_goals with_reducible rfl
                try go_frame
                refine tks (oi := ⟨_, _, _, _, _, _⟩) (v := ?_) 7 rfl (.inl ⟨by rfl, ?_⟩) ?_; rotate_left
                · (intro wS hSw; (try dsimp only at hSw); go_simp); all_goals with_reducible rfl
                try go_frame
                refine tks (oi := ⟨_, _, _, _, _, _⟩) (v := ?_) 8 rfl (.inl ⟨by rfl, ?_⟩) ?_; rotate_left
                · (intro wS hSw; (try dsimp only at hSw); go_simp); all_goals with_reducible rfl
                try go_frame
                refine tks (oi := ⟨_, _, _, _, _, _⟩) (v := ?_) 9 rfl (.inl ⟨by rfl, ?_⟩) ?_; rotate_left
                · (intro wS hSw; (try dsimp only at hSw); go_simp); all_goals with_reducible rfl
                try go_frame
                refine tks (oi := ⟨_, _, _, _, _, _⟩) (v := ?_) 10 rfl (.inl ⟨by rfl, ?_⟩) ?_; rotate_left
                · (intro wS hSw; (try dsimp only at hSw); go_simp); all_goals with_reducible rfl
                try go_frame
                refine tks (oi := ⟨_, _, _, _, _, _⟩) (v := ?_) 11 rfl (.inl ⟨by rfl, ?_⟩) ?_; rotate_left
                · (intro wS hSw; (try dsimp only at hSw); go_simp); all_goals with_reducible rfl
                try go_frame
                refine tks (oi := ⟨_, _, _, _, _, _⟩) (v := ?_) 12 rfl (.inl ⟨by rfl, ?_⟩) ?_; rotate_left
                · (intro wS hSw; (try dsimp only at hSw); go_simp); all_goals with_reducible rfl
                try go_frame
                refine tks (oi := ⟨_, _, _, _, _, _⟩) (v := ?_) 13 rfl (.inl ⟨by rfl, ?_⟩) ?_; rotate_left
                · (intro wS hSw; (try dsimp only at hSw); go_simp); all_goals with_reducible rfl
                try go_frame
                refine tks (oi := ⟨_, _, _, _, _, _⟩) (v := ?_) 14 rfl (.inl ⟨by rfl, ?_⟩) ?_; rotate_left
                · (intro wS hSw; (try dsimp only at hSw); go_simp); all_goals with_reducible rfl
                try go_frame
                refine tks (oi := ⟨_, _, _, _, _, _⟩) (v := ?_) 15 rfl (.inl ⟨by rfl, ?_⟩) ?_; rotate_left
                · (intro wS hSw; (try dsimp only at hSw); go_simp); all_goals with_reducible rfl
                try go_frame
                refine tks (oi := ⟨_, _, _, _, _, _⟩) (v := ?_) 16 rfl (.inl ⟨by rfl, ?_⟩) ?_; rotate_left
                · (intro wS hSw; (try dsimp only at hSw); go_simp); all_goals with_reducible rfl
                try go_frame
                refine tks (oi := ⟨_, _, _, _, _, _⟩) (v := ?_) 17 rfl (.inl ⟨by rfl, ?_⟩) ?_; rotate_left
                · (intro wS hSw; (try dsimp only at hSw); go_simp); all_goals with_reducible rfl
                try go_frame
                refine tks (oi := ⟨_, _, _, _, _, _⟩) (v := ?_) 18 rfl (.inl ⟨by rfl, ?_⟩) ?_; rotate_left
                · (intro wS hSw; (try dsimp only at hSw); go_simp); all_goals with_reducible rfl
                try go_frame
                refine tks (oi := ⟨_, _, _, _, _, _⟩) (v := ?_) 19 rfl (.inl ⟨by rfl, ?_⟩) ?_; rotate_left
                · (intro wS hSw; (try dsimp only at hSw); go_simp); all_goals with_reducible rfl
                try go_frame
                refine tks (oi := ⟨_, _, _, _, _, _⟩) (v := ?_) 20 rfl (.inl ⟨by rfl, ?_⟩) ?_; rotate_left
                · (intro wS hSw; (try dsimp only at hSw); go_simp); all_goals with_reducible rfl
                try go_frame
                refine wpAnyH_done (by kernel_rfl) ?_ _
                clear hHeld d1 d2 d3 d4 d5 kn
                go_wp2_with fail
                obtain ⟨W1, hW1⟩ : ∃ W1, Hid (W1 = (wr.alloc (.cells #[.int .i64 x.level, .int .i64 x.kind, .string ⟨x.name.toArray⟩, .string ⟨x.text.toArray⟩, .slice A' x.attrs.length c'] 50)).drew) := ⟨_, rfl⟩
                obtain ⟨hbW, hzW, hcs⟩ := box_cells (wr := wr) (W1 := W1) (x := x) (A' := A') (c' := c') (.inr hW1.out)
                have HCS := Lib.hid hcs
                have HZW := Lib.hid hzW
                have hzW' : wr.heap.size < W1.heap.size := by omega
                obtain ⟨⟨b0, b1, b2, b3, b4⟩, bf⟩ := hcs W1 (Below.refl _ _)
                have bf4 := bf 4
                clear hcs hzW bf h0 h1 h2 h3 h4
                rw [← hW1.out]
                go_wp2_with fail
                refine (Clone_any x.attrs A' c' _ ((HAT.out.below hbW).more (Nat.le_of_lt hzW')) hsx.out.2.2.1).mono ?_
                rintro e w2 ⟨A2, c2, rfl, hcl, hb2⟩
                have HCL := Lib.hid hcl
                clear hcl b0 b1 b2 b3 b4 bf4
                obtain ⟨⟨b0, b1, b2, b3, b4⟩, bf⟩ := HCS.out w2 hb2
                have bf4 := bf 4
                have hz2 := hb2.size
                clear bf
                obtain ⟨W3, hW3⟩ : ∃ W3, Hid (W3 = w2.setCell ⟨wr.heap.size, 4, none⟩ (.slice A2 x.attrs.length c2)) := ⟨_, rfl⟩
                have hb3 : Below wr.heap.size wr W3 := by rw [hW3.out]; exact (hbW.trans (hb2.mono (Nat.le_of_lt hzW'))).setCell (Nat.le_refl _) _
                have hz3 : wr.heap.size < W3.heap.size := by rw [hW3.out]; simp; omega
                have hown3 : W3.ownsRow w.heap.size 50 5 (.slice (some gd) m cp) m (S.flatMap cellsI) := by rw [← hm.out]; exact hown.out.keepB hb3
                have hattr3 : Hid (∀ s ∈ S ++ [(x, A2, c2)], AttrsOwn W3 w.heap.size s.2.1 s.2.2 s.1.attrs) := fun s hs => by
                  rcases List.mem_append.1 hs with h | h
                  · exact (hattr.out s h).keepB hb3
                  · simp at h; subst h
                    rw [hW3.out]
                    exact own_base (ownsRow_setCell_below HCL.out (by show wr.heap.size < _; exact hzW') _) (by omega)
                go_wp2_with (at_builtin; rw [← hW3.out]; go_loud (refine appendS rfl (.tmp 59) (.tmp 61) 45 rfl w.heap.size 50 (.agg #[.int .i64 0, .int .i64 0, .string ByteArray.empty, .string ByteArray.empty, .slice none 0 0]) 5 72 Try.underlying45 infoItem rfl (by decide) _ m _ (cellsI (x, A2, c2)) rfl hown3 (by omega) _ rfl (by rw [hW3.out]; simp) (cellsI_length _) (cellsI_one _) (by omega) (by decide) ?_))
                intro a4 c4 w4 hown4 hb4 hz4 hg4
                have hown4' : ItemsOwn w4 w.heap.size a4 c4 (S ++ [(x, A2, c2)]) := by
                  unfold ItemsOwn
                  rw [List.length_append, List.flatMap_append, hm.out]
                  simpa using hown4
                have htx4 : Hid (∀ s ∈ S ++ [(x, A2, c2)], s.1.text.length ≤ textSum (l.take (k + 1))) := fun s hs => by
                  rw [textSum_take hx.out]
                  rcases List.mem_append.1 hs with h | h
                  · have := htx.out s h; omega
                  · simp at h; subst h; show x.text.length ≤ _; omega
                have hattr4 : Hid (∀ s ∈ S ++ [(x, A2, c2)], AttrsOwn w4 w.heap.size s.2.1 s.2.2 s.1.attrs) := fun s hs => own_grown (World.ownsRow.alloc (hattr3.out s hs) _) (World.ownsRow.alloc hown3 _) (by decide) hg4
                have hb4' : Below w.heap.size w w4 := hbel.trans ((hb3.mono hzr).trans hb4)
                have HIN4 : Hid (List.foldl nstep ((S ++ [(x, A2, c2)]).map (·.1)) (l.drop (k + 1)) = N) := by
                  show _ = _
                  rw [List.map_append]
                  exact HIN.out
                clear hown4 hg4
                go_wp2_with fail
                go_roundw
                case rel => exact ⟨k + 1, S ++ [(x, A2, c2)], a4, c4, m + 1, by omega, by go_num, rfl, by show _ = _; rw [List.length_append, hm.out]; rfl, by omega, htx4, hown4', hattr4, HIN4, hb4'⟩
                case measure => simp [intOf]; omega
              · have d4 : (s.1.kind == 2) = false := by simp [hj1]
                clear hj hj1
                go_wp2_with fail
                refine wp_region_held_drew (S := fun w' => w'.cell? (gd.add ((m - 1) * 5)) = some (.int .i64 s.1.level) ∧ w'.cell? ⟨(gd.add ((m - 1) * 5)).block, (gd.add ((m - 1) * 5)).off + 1, none⟩ = some (.int .i64 s.1.kind) ∧ w'.cell? ⟨(gd.add ((m - 1) * 5)).block, (gd.add ((m - 1) * 5)).off + 3, none⟩ = some (.string ⟨s.1.text.toArray⟩) ∧ w'.cell? ⟨wr.heap.size, 0, none⟩ = some (.int .i64 x.level) ∧ w'.cell? ⟨wr.heap.size, 3, none⟩ = some (.string ⟨x.text.toArray⟩)) (by kernel_rfl) HW.out (fun hHeld => ?_)
                refine tks (oi := ⟨_, _, _, _, _, _⟩) (v := ?_) 0 rfl (.inl ⟨by rfl, ?_⟩) ?_; rotate_left
                · (intro wS hSw; (try dsimp only at hSw); go_simp); all_goals with_reducible rfl
                try go_frame
                refine tks (oi := ⟨_, _, _, _, _, _⟩) (v := ?_) 1 rfl (.inl ⟨by rfl, ?_⟩) ?_; rotate_left
                · (intro wS hSw; (try dsimp only at hSw); go_simp); all_goals with_reducible rfl
                try go_frame
                refine tks (oi := ⟨_, _, _, _, _, _⟩) (v := ?_) 2 rfl (.inl ⟨by rfl, ?_⟩) ?_; rotate_left
                · (intro wS hSw; (try dsimp only at hSw); go_simp); all_goals with_reducible rfl
                try go_frame
                refine tks (oi := ⟨_, _, _, _, _, _⟩) (v := ?_) 3 rfl (.inl ⟨by rfl, ?_⟩) ?_; rotate_left
                · (intro wS hSw; (try dsimp only at hSw); go_simp); all_goals with_reducible rfl
                try go_frame
                refine tks (oi := ⟨_, _, _, _, _, _⟩) (v := ?_) 4 rfl (.inl ⟨by rfl, ?_⟩) ?_; rotate_left
                · (intro wS hSw; (try dsimp only at hSw); go_simp); all_goals with_reducible rfl
                try go_frame
                refine tks (oi := ⟨_, _, _, _, _, _⟩) (v := ?_) 5 rfl (.inl ⟨by rfl, ?_⟩) ?_; rotate_left
                · (intro wS hSw; (try dsimp only at hSw); go_simp); all_goals with_reducible rfl
                try go_frame
                refine tks (oi := ⟨_, _, _, _, _, _⟩) (v := ?_) 6 rfl (.inl ⟨by rfl, ?_⟩) ?_; rotate_left
                · (intro wS hSw; (try dsimp only at hSw); go_simp); all_goals with_reducible rfl
                try go_frame
                refine tks (oi := ⟨_, _, _, _, _, _⟩) (v := ?_) 7 rfl (.inl ⟨by rfl, ?_⟩) ?_; rotate_left
                · (intro wS hSw; (try dsimp only at hSw); go_simp); all_goals with_reducible rfl
                try go_frame
                refine tks (oi := ⟨_, _, _, _, _, _⟩) (v := ?_) 8 rfl (.inl ⟨by rfl, ?_⟩) ?_; rotate_left
                · (intro wS hSw; (try dsimp only at hSw); go_simp); all_goals with_reducible rfl
                try go_frame
                refine tks (oi := ⟨_, _, _, _, _, _⟩) (v := ?_) 9 rfl (.inl ⟨by rfl, ?_⟩) ?_; rotate_left
                · (intro wS hSw; (try dsimp only at hSw); go_simp); all_goals with_reducible rfl
                try go_frame
                refine tks (oi := ⟨_, _, _, _, _, _⟩) (v := ?_) 10 rfl (.inl ⟨by rfl, ?_⟩) ?_; rotate_left
                · (intro wS hSw; (try dsimp only at hSw); go_simp); all_goals with_reducible rfl
                try go_frame
                refine tks (oi := ⟨_, _, _, _, _, _⟩) (v := undef) 11 rfl (.inr ⟨by rfl, rfl⟩) ?_
                try go_frame
                refine tks (oi := ⟨_, _, _, _, _, _⟩) (v := undef) 12 rfl (.inr ⟨by rfl, rfl⟩) ?_
                try go_frame
                refine tks (oi := ⟨_, _, _, _, _, _⟩) (v := undef) 13 rfl (.inr ⟨by rfl, rfl⟩) ?_
                try go_frame
                refine tks (oi := ⟨_, _, _, _, _, _⟩) (v := undef) 14 rfl (.inr ⟨by rfl, rfl⟩) ?_
                try go_frame
                refine tks (oi := ⟨_, _, _, _, _, _⟩) (v := undef) 15 rfl (.inr ⟨by rfl, rfl⟩) ?_
                try go_frame
                refine tks (oi := ⟨_, _, _, _, _, _⟩) (v := undef) 16 rfl (.inr ⟨by rfl, rfl⟩) ?_
                try go_frame
                refine tks (oi := ⟨_, _, _, _, _, _⟩) (v := undef) 17 rfl (.inr ⟨by rfl, rfl⟩) ?_
                try go_frame
                refine tks (oi := ⟨_, _, _, _, _, _⟩) (v := undef) 18 rfl (.inr ⟨by rfl, rfl⟩) ?_
                try go_frame
                refine tks (oi := ⟨_, _, _, _, _, _⟩) (v := ?_) 19 rfl (.inl ⟨by rfl, ?_⟩) ?_; rotate_left
                · (intro wS hSw; (try dsimp only at hSw); go_simp); all_goals with_reducible rfl
                try go_frame
                refine tks (oi := ⟨_, _, _, _, _, _⟩) (v := ?_) 20 rfl (.inl ⟨by rfl, ?_⟩) ?_; rotate_left
                · (intro wS hSw; (try dsimp only at hSw); go_simp); all_goals with_reducible rfl
                try go_frame
                refine wpAnyH_done (by kernel_rfl) ?_ _
                clear hHeld d1 d2 d3 d4 kn
                go_wp2_with fail
                obtain ⟨W1, hW1⟩ : ∃ W1, Hid (W1 = (wr.alloc (.cells #[.int .i64 x.level, .int .i64 x.kind, .string ⟨x.name.toArray⟩, .string ⟨x.text.toArray⟩, .slice A' x.attrs.length c'] 50)).drew) := ⟨_, rfl⟩
                obtain ⟨hbW, hzW, hcs⟩ := box_cells (wr := wr) (W1 := W1) (x := x) (A' := A') (c' := c') (.inr hW1.out)
                have HCS := Lib.hid hcs
                have HZW := Lib.hid hzW
                have hzW' : wr.heap.size < W1.heap.size := by omega
                obtain ⟨⟨b0, b1, b2, b3, b4⟩, bf⟩ := hcs W1 (Below.refl _ _)
                have bf4 := bf 4
                clear hcs hzW bf h0 h1 h2 h3 h4
                rw [← hW1.out]
                go_wp2_with fail
                refine (Clone_any x.attrs A' c' _ ((HAT.out.below hbW).more (Nat.le_of_lt hzW')) hsx.out.2.2.1).mono ?_
                rintro e w2 ⟨A2, c2, rfl, hcl, hb2⟩
                have HCL := Lib.hid hcl
                clear hcl b0 b1 b2 b3 b4 bf4
                obtain ⟨⟨b0, b1, b2, b3, b4⟩, bf⟩ := HCS.out w2 hb2
                have bf4 := bf 4
                have hz2 := hb2.size
                clear bf
                obtain ⟨W3, hW3⟩ : ∃ W3, Hid (W3 = w2.setCell ⟨wr.heap.size, 4, none⟩ (.slice A2 x.attrs.length c2)) := ⟨_, rfl⟩
                have hb3 : Below wr.heap.size wr W3 := by rw [hW3.out]; exact (hbW.trans (hb2.mono (Nat.le_of_lt hzW'))).setCell (Nat.le_refl _) _
                have hz3 : wr.heap.size < W3.heap.size := by rw [hW3.out]; simp; omega
                have hown3 : W3.ownsRow w.heap.size 50 5 (.slice (some gd) m cp) m (S.flatMap cellsI) := by rw [← hm.out]; exact hown.out.keepB hb3
                have hattr3 : Hid (∀ s ∈ S ++ [(x, A2, c2)], AttrsOwn W3 w.heap.size s.2.1 s.2.2 s.1.attrs) := fun s hs => by
                  rcases List.mem_append.1 hs with h | h
                  · exact (hattr.out s h).keepB hb3
                  · simp at h; subst h
                    rw [hW3.out]
                    exact own_base (ownsRow_setCell_below HCL.out (by show wr.heap.size < _; exact hzW') _) (by omega)
                go_wp2_with (at_builtin; rw [← hW3.out]; go_loud (refine appendS rfl (.tmp 59) (.tmp 61) 45 rfl w.heap.size 50 (.agg #[.int .i64 0, .int .i64 0, .string ByteArray.empty, .string ByteArray.empty, .slice none 0 0]) 5 72 Try.underlying45 infoItem rfl (by decide) _ m _ (cellsI (x, A2, c2)) rfl hown3 (by omega) _ rfl (by rw [hW3.out]; simp) (cellsI_length _) (cellsI_one _) (by omega) (by decide) ?_))
                intro a4 c4 w4 hown4 hb4 hz4 hg4
                have hown4' : ItemsOwn w4 w.heap.size a4 c4 (S ++ [(x, A2, c2)]) := by
                  unfold ItemsOwn
                  rw [List.length_append, List.flatMap_append, hm.out]
                  simpa using hown4
                have htx4 : Hid (∀ s ∈ S ++ [(x, A2, c2)], s.1.text.length ≤ textSum (l.take (k + 1))) := fun s hs => by
                  rw [textSum_take hx.out]
                  rcases List.mem_append.1 hs with h | h
                  · have := htx.out s h; omega
                  · simp at h; subst h; show x.text.length ≤ _; omega
                have hattr4 : Hid (∀ s ∈ S ++ [(x, A2, c2)], AttrsOwn w4 w.heap.size s.2.1 s.2.2 s.1.attrs) := fun s hs => own_grown (World.ownsRow.alloc (hattr3.out s hs) _) (World.ownsRow.alloc hown3 _) (by decide) hg4
                have hb4' : Below w.heap.size w w4 := hbel.trans ((hb3.mono hzr).trans hb4)
                have HIN4 : Hid (List.foldl nstep ((S ++ [(x, A2, c2)]).map (·.1)) (l.drop (k + 1)) = N) := by
                  show _ = _
                  rw [List.map_append]
                  exact HIN.out
                clear hown4 hg4
                go_wp2_with fail
                go_roundw
                case rel => exact ⟨k + 1, S ++ [(x, A2, c2)], a4, c4, m + 1, by omega, by go_num, rfl, by show _ = _; rw [List.length_append, hm.out]; rfl, by omega, htx4, hown4', hattr4, HIN4, hb4'⟩
                case measure => simp [intOf]; omega
      · have t1 : (x.kind != 2) = true := by simp [hk2]
        have HIN : Hid (List.foldl nstep (S.map (·.1) ++ [x]) (l.drop (k + 1)) = N) := by
          show _ = _
          rw [← hin', nstep_app (fun h => hk2 h.1) (fun _ _ h => hk2 h.1)]
        clear hin' hk2
        go_wp2_with fail
        obtain ⟨W1, hW1⟩ : ∃ W1, Hid (W1 = wr.alloc (.cells #[.int .i64 x.level, .int .i64 x.kind, .string ⟨x.name.toArray⟩, .string ⟨x.text.toArray⟩, .slice A' x.attrs.length c'] 50)) := ⟨_, rfl⟩
        obtain ⟨hbW, hzW, hcs⟩ := box_cells (wr := wr) (W1 := W1) (x := x) (A' := A') (c' := c') (.inl hW1.out)
        have HCS := Lib.hid hcs
        have HZW := Lib.hid hzW
        have hzW' : wr.heap.size < W1.heap.size := by omega
        obtain ⟨⟨b0, b1, b2, b3, b4⟩, bf⟩ := hcs W1 (Below.refl _ _)
        have bf4 := bf 4
        clear hcs hzW bf h0 h1 h2 h3 h4
        rw [← hW1.out]
        go_wp2_with fail
        refine (Clone_any x.attrs A' c' _ ((HAT.out.below hbW).more (Nat.le_of_lt hzW')) hsx.out.2.2.1).mono ?_
        rintro e w2 ⟨A2, c2, rfl, hcl, hb2⟩
        have HCL := Lib.hid hcl
        clear hcl b0 b1 b2 b3 b4 bf4
        obtain ⟨⟨b0, b1, b2, b3, b4⟩, bf⟩ := HCS.out w2 hb2
        have bf4 := bf 4
        have hz2 := hb2.size
        clear bf
        obtain ⟨W3, hW3⟩ : ∃ W3, Hid (W3 = w2.setCell ⟨wr.heap.size, 4, none⟩ (.slice A2 x.attrs.length c2)) := ⟨_, rfl⟩
        have hb3 : Below wr.heap.size wr W3 := by rw [hW3.out]; exact (hbW.trans (hb2.mono (Nat.le_of_lt hzW'))).setCell (Nat.le_refl _) _
        have hz3 : wr.heap.size < W3.heap.size := by rw [hW3.out]; simp; omega
        have hown3 : W3.ownsRow w.heap.size 50 5 (.slice ad m cp) m (S.flatMap cellsI) := by rw [← hm.out]; exact hown.out.keepB hb3
        have hattr3 : Hid (∀ s ∈ S ++ [(x, A2, c2)], AttrsOwn W3 w.heap.size s.2.1 s.2.2 s.1.attrs) := fun s hs => by
          rcases List.mem_append.1 hs with h | h
          · exact (hattr.out s h).keepB hb3
          · simp at h; subst h
            rw [hW3.out]
            exact own_base (ownsRow_setCell_below HCL.out (by show wr.heap.size < _; exact hzW') _) (by omega)
        go_wp2_with (at_builtin; rw [← hW3.out]; go_loud (refine appendS rfl (.tmp 59) (.tmp 61) 45 rfl w.heap.size 50 (.agg #[.int .i64 0, .int .i64 0, .string ByteArray.empty, .string ByteArray.empty, .slice none 0 0]) 5 72 Try.underlying45 infoItem rfl (by decide) _ m _ (cellsI (x, A2, c2)) rfl hown3 (by omega) _ rfl (by rw [hW3.out]; simp) (cellsI_length _) (cellsI_one _) (by omega) (by decide) ?_))
        intro a4 c4 w4 hown4 hb4 hz4 hg4
        have hown4' : ItemsOwn w4 w.heap.size a4 c4 (S ++ [(x, A2, c2)]) := by
          unfold ItemsOwn
          rw [List.length_append, List.flatMap_append, hm.out]
          simpa using hown4
        have htx4 : Hid (∀ s ∈ S ++ [(x, A2, c2)], s.1.text.length ≤ textSum (l.take (k + 1))) := fun s hs => by
          rw [textSum_take hx.out]
          rcases List.mem_append.1 hs with h | h
          · have := htx.out s h; omega
          · simp at h; subst h; show x.text.length ≤ _; omega
        have hattr4 : Hid (∀ s ∈ S ++ [(x, A2, c2)], AttrsOwn w4 w.heap.size s.2.1 s.2.2 s.1.attrs) := fun s hs => own_grown (World.ownsRow.alloc (hattr3.out s hs) _) (World.ownsRow.alloc hown3 _) (by decide) hg4
        have hb4' : Below w.heap.size w w4 := hbel.trans ((hb3.mono hzr).trans hb4)
        have HIN4 : Hid (List.foldl nstep ((S ++ [(x, A2, c2)]).map (·.1)) (l.drop (k + 1)) = N) := by
          show _ = _
          rw [List.map_append]
          exact HIN.out
        clear hown4 hg4
        go_wp2_with fail
        go_roundw
        case rel => exact ⟨k + 1, S ++ [(x, A2, c2)], a4, c4, m + 1, by omega, by go_num, rfl, by show _ = _; rw [List.length_append, hm.out]; rfl, by omega, htx4, hown4', hattr4, HIN4, hb4'⟩
        case measure => simp [intOf]; omega
    · have HIN : Hid (S.map (·.1) = N) := by
        show _ = _
        rw [← hin.out, List.drop_eq_nil_of_le (by omega)]; rfl
      have hk' : k = l.length := by omega
      subst hk'
      clear hin hlt hk
      go_wp2_with fail
      go_ret
      exact ⟨⟨ad, cp, S, by rw [hm.out]; rfl, hown.out, hattr.out, HIN.out⟩, hbel⟩
end Go.Proofs.Ythifddkmbjnncaa

/-
  The walk of the closure of scribe.Print, that calls itself.
-/
namespace Go.Proofs.Ythifddkmbjnncaa
open Go.RowKit

/-- What the printing leaves alone. -/
def PK (b : Nat) (w w' : World) : Prop := Below b w w' ∧ Lib.OthersKept 5 (some b) w w'
theorem PK.refl (b : Nat) (w : World) : PK b w w := ⟨Below.refl _ _, Lib.OthersKept.refl _ _ _⟩
theorem PK.trans {b : Nat} {w w' w'' : World} (h : PK b w w') (k : PK b w' w'') : PK b w w'' := ⟨h.1.trans k.1, h.2.trans k.2⟩
theorem PK.drew {b : Nat} {w w' : World} (h : PK b w w') : PK b w w'.drew := ⟨h.1.drew, h.2.drew⟩
theorem PK.of_below {b : Nat} {w w' : World} (hb : b ≤ w.heap.size) (h : Below w.heap.size w w') : PK b w w' := ⟨h.mono hb, fun k o hk _ _ => by
  rw [h.block k (Array.getElem?_eq_some_iff.1 hk).1]; exact hk⟩
theorem PK.size {b : Nat} {w w' : World} (h : PK b w w') : w.heap.size ≤ w'.heap.size := h.1.size

/-- What the closure has caught, and the row. -/
structure PEnv (N : List ItemD) (ad : Addr) (c lb b : Nat) (w : World) : Prop where
  lv : w.cell? ⟨lb, 0, none⟩ = some (.slice (some ad) N.length c)
  hlb : lb < b
  items : ItemsAt w b (some ad) N
  av : w.heap[b + 1]? = some (.cells #[.func (.func 53) #[.pointer (some ⟨b, 0, none⟩)] #[]] 81 (0, 0))
  pv : w.heap[b + 2]? = some (.cells #[.func (.func 54) #[] #[.pointer (some ⟨lb, 0, none⟩), .pointer (some ⟨b + 1, 0, none⟩), .pointer (some ⟨b + 2, 0, none⟩)]] 82 (0, 0))
theorem PEnv.keep {N : List ItemD} {ad : Addr} {c lb b : Nat} {w w' : World} (h : PEnv N ad c lb b w) (k : PK b w w') : PEnv N ad c lb b w' :=
  ⟨(k.1.cell (p := ⟨lb, 0, none⟩) h.hlb).trans h.lv, h.hlb, h.items.below k.1, k.2 _ _ h.av (by simp) (fun _ _ => by intro e; injection e with _ e; revert e; decide), k.2 _ _ h.pv (by simp) (fun _ _ => by intro e; injection e with _ e; revert e; decide)⟩
theorem PEnv.size {N : List ItemD} {ad : Addr} {c lb b : Nat} {w : World} (h : PEnv N ad c lb b w) : b + 2 < w.heap.size := (Array.getElem?_eq_some_iff.1 h.pv).1

abbrev Bld (b : Nat) (acc : List UInt8) (w : World) : Prop := Lib.IsBuilderF 80 5 b b (Lib.byteCells acc) w

def PutPost (b : Nat) (acc : List UInt8) (w : World) (e : Ending) (w' : World) : Prop := e = .returned (.tuple #[]) ∧ Bld b acc w' ∧ PK b w w'


set_option maxRecDepth 100000 in
set_option maxHeartbeats 4000000 in
theorem put_any (N : List ItemD) (ad : Addr) (c lb b : Nat) (hN : SmallItems N) (d : Nat) : ∀ (k : Nat) (x : ItemD) (acc : List UInt8) (w : World), N.length - k ≤ d → N[k]? = some x → PEnv N ad c lb b w → Bld b acc w → acc.length + (nodeAt N k).length ≤ 1000000000 →
    Calls Try.prog 54 #[.int .i64 k, .pointer (some ⟨lb, 0, none⟩), .pointer (some ⟨b + 1, 0, none⟩), .pointer (some ⟨b + 2, 0, none⟩)] w (PutPost b (acc ++ nodeAt N k) w) := by
  induction d with
  | zero =>
    intro k x acc w hd hx
    have := (List.getElem?_eq_some_iff.1 hx).1
    omega
  | succ d ih =>
    intro k x acc w hd hx henv hbld hlen
    have hk : k < N.length := (List.getElem?_eq_some_iff.1 hx).1
    obtain ⟨hN1, hN2⟩ := hN
    have hkE := endN_le hx
    have hn := nodeAt_eq hx
    have hks := kids_seg hx
    have hst : ∀ n y, k < n → n < endN N k → N[n]? = some y → n < endN N n ∧ endN N n ≤ endN N k ∧ pr ((N.drop n).take (endN N k - n)) = nodeAt N n ++ pr ((N.drop (endN N n)).take (endN N k - endN N n)) := fun n y h1 h2 hy => seg_step hx h1 h2 hy
    obtain ⟨_, A', c', hat, hac, h0, h1, h2, h3, h4⟩ := henv.items.item hx
    unfold strV at h2 h3
    have hadb := (henv.items.item hx).1
    have hsx := hN2 k x hx
    have HIT := Lib.hid henv.items
    have IH := Lib.hid ih
    have HX := Lib.hid hx
    have HENV := Lib.hid henv
    have HB := Lib.hid hbld
    have HN := Lib.hid (show SmallItems N from ⟨hN1, hN2⟩)
    have HSX := Lib.hid hsx
    have hs2 := hsx.2.1
    have hz := henv.size
    obtain ⟨E, hE⟩ : ∃ E, Hid (endN N k = E) := ⟨_, rfl⟩
    obtain ⟨O, hO⟩ : ∃ O, Hid (nodeAt N k = O) := ⟨_, rfl⟩
    obtain ⟨Y, hY⟩ : ∃ Y, Hid (kidsOf x.level (N.drop (k + 1)) = Y) := ⟨_, rfl⟩
    rw [hO.out] at hlen hn ⊢
    rw [hY.out] at hn hks
    rw [hE.out] at hkE hks hst
    have hYl : Hid (E = k + 1 + Y.length) := by show _ = _; rw [← hE.out, endN_eq hx, hY.out]
    have HO := Lib.hid hn
    have HKS := Lib.hid hks
    have HST := Lib.hid hst
    have hcell : Hid (∀ w', PK b w w' → (fun w' => w'.cell? ⟨lb, 0, none⟩ = some (.slice (some ad) N.length c) ∧ w'.cell? ⟨b + 1, 0, none⟩ = some (.func (.func 53) #[.pointer (some ⟨b, 0, none⟩)] #[]) ∧ w'.cell? (ad.add (k * 5)) = some (.int .i64 x.level) ∧ w'.cell? ⟨(ad.add (k * 5)).block, (ad.add (k * 5)).off + 1, none⟩ = some (.int .i64 x.kind) ∧ w'.cell? ⟨(ad.add (k * 5)).block, (ad.add (k * 5)).off + 2, none⟩ = some (.string ⟨x.name.toArray⟩) ∧ w'.cell? ⟨(ad.add (k * 5)).block, (ad.add (k * 5)).off + 3, none⟩ = some (.string ⟨x.text.toArray⟩) ∧ w'.cell? ⟨(ad.add (k * 5)).block, (ad.add (k * 5)).off + 4, none⟩ = some (.slice A' x.attrs.length c')) w') := fun w' hw => by
      have he := henv.keep hw
      have ka : ∀ j, w'.cell? ⟨(ad.add (k * 5)).block, j, none⟩ = w.cell? ⟨(ad.add (k * 5)).block, j, none⟩ := fun j => hw.1.cell (by show (ad.add _).block < _; rw [block_of_add]; exact hadb)
      refine ⟨he.lv, ?_, (hw.1.cell (by rw [block_of_add]; exact hadb)).trans h0, (ka _).trans h1, (ka _).trans h2, (ka _).trans h3, (ka _).trans h4⟩
      rw [Lib.cell_of_heap he.av]; rfl
    have hcellp : Hid (∀ w', PK b w w' → w'.cell? ⟨b + 2, 0, none⟩ = some (.func (.func 54) #[] #[.pointer (some ⟨lb, 0, none⟩), .pointer (some ⟨b + 1, 0, none⟩), .pointer (some ⟨b + 2, 0, none⟩)])) := fun w' hw => by
      have he := henv.keep hw
      rw [Lib.cell_of_heap he.pv]; rfl
    have HAT : Hid (∀ w', PK b w w' → AttrsAt w' w'.heap.size A' x.attrs) := fun w' hw => by
      have := hw.size
      exact (hat.below hw.1).more (by omega)
    obtain ⟨hkE1, hkE2⟩ := hkE
    clear ih hx henv hbld hN2 hn hks hst hat h0 h1 h2 h3 h4 hsx
    obtain ⟨c0, c1, c2, c3, c4, c5, c6⟩ := hcell.out w (PK.refl _ _)
    have hbz : b ≤ w.heap.size := by omega
    go_enter Try.func54, Try.ntmps54
    go_wp2_with fail
    refine (End_in N ad c k x w (HIT.out.more hbz) HX.out hN1 E hE).mono ?_
    rintro e w2 ⟨rfl, hb2⟩
    have hp2 : PK b w w2 := PK.of_below hbz hb2
    have hbz2 : b ≤ w2.heap.size := by have := hp2.size; omega
    have HB2 : Hid (Bld b acc w2) := builderF_below HB.out hb2
    clear c0 c1 c2 c3 c4 c5 c6
    obtain ⟨c0, c1, c2, c3, c4, c5, c6⟩ := hcell.out w2 hp2
    by_cases hk2 : x.kind = 2
    · have hOT : Hid (O = escT x.text) := by show _ = _; rw [HO.out]; unfold nodeL; rw [if_pos hk2]
      obtain ⟨o, ho⟩ : ∃ o, Hid (escT x.text = o) := ⟨_, rfl⟩
      have hol : o.length ≤ 1000000000 := by have := hOT.out; rw [ho.out] at this; rw [this] at hlen; omega
      have d1 : (x.kind == 2) = true := by simp [hk2]
      clear hk2
      go_wp2_with fail
      refine (Text_l _ _ hs2 o ho).mono ?_; rintro e w3 ⟨rfl, hb3⟩
      have hp3 : PK b w w3 := hp2.trans (PK.of_below hbz2 hb3)
      have HB3 : Hid (Bld b acc w3) := builderF_below HB2.out hb3
      have hbz3 : b ≤ w3.heap.size := by have := hp3.size; omega
      clear c0 c1 c2 c3 c4 c5 c6 d1
      obtain ⟨c0, c1, c2, c3, c4, c5, c6⟩ := hcell.out w3 hp3
      go_wp2_with fail
      have hsz : (Lib.byteCells acc).length + (⟨o.toArray⟩ : ByteArray).size ≤ 140737488355328 := by
        rw [Lib.byteCells_length]; show acc.length + o.toArray.size ≤ _; rw [List.size_toArray]
        have := hOT.out; rw [ho.out] at this; rw [this] at hlen; omega
      refine (WriteK b b (Lib.byteCells acc) ⟨o.toArray⟩ w3 HB3.out hsz hbz3).mono ?_
      rintro e w4 ⟨rfl, hB4, hb4, hk4⟩
      clear hsz c0 c1 c2 c3 c4 c5 c6
      go_wp2_with fail
      go_end0
      refine ⟨rfl, .inr ?_, hp3.trans ⟨hb4, hk4⟩⟩
      rw [Lib.byteCells_append, hOT.out, ho.out]
      exact hB4
    · obtain ⟨T, hT⟩ : ∃ T, Hid (tagL x = T) := ⟨_, rfl⟩
      have hO2 := HO.out
      unfold nodeL at hO2
      rw [if_neg hk2, hT.out] at hO2
      have d1 : (x.kind == 2) = false := by simp [hk2]
      clear hk2
      by_cases hY0 : Y = []
      · rw [if_pos hY0] at hO2
        have hTl2 : acc.length + (T.length + 2) ≤ 1000000000 := by rw [hO2] at hlen; simpa using hlen
        have hTl : T.length ≤ 1000000000 := by omega
        have dE : ((E : Int) == (k : Int) + 1) = true := by
          have := hYl.out
          rw [hY0] at this
          simp at this
          simp; omega
        have htl : ¬ (9223372036854775807 < T.length + 2) := by omega
        have HO2 := Lib.hid hO2
        clear hO2 hY0
        go_wp2_with fail
        clear dE d1 c0 c1 c2 c3 c4 c5 c6
        refine wp_region_held_drew (S := fun w' => w'.cell? ⟨lb, 0, none⟩ = some (.slice (some ad) N.length c) ∧ w'.cell? ⟨b + 1, 0, none⟩ = some (.func (.func 53) #[.pointer (some ⟨b, 0, none⟩)] #[]) ∧ w'.cell? (ad.add (k * 5)) = some (.int .i64 x.level) ∧ w'.cell? ⟨(ad.add (k * 5)).block, (ad.add (k * 5)).off + 1, none⟩ = some (.int .i64 x.kind) ∧ w'.cell? ⟨(ad.add (k * 5)).block, (ad.add (k * 5)).off + 2, none⟩ = some (.string ⟨x.name.toArray⟩) ∧ w'.cell? ⟨(ad.add (k * 5)).block, (ad.add (k * 5)).off + 3, none⟩ = some (.string ⟨x.text.toArray⟩) ∧ w'.cell? ⟨(ad.add (k * 5)).block, (ad.add (k * 5)).off + 4, none⟩ = some (.slice A' x.attrs.length c')) (by kernel_rfl) (hcell.out _ hp2.drew) (fun hHeld => ?_)
        refine tks (oi := ⟨_, _, _, _, _, _⟩) (v := ?_) 0 rfl (.inl ⟨by rfl, ?_⟩) ?_; rotate_left
        · (intro wS hSw; (try dsimp only at hSw); go_simp); all_goals with_reducible rfl
        try go_frame
        refine tks (oi := ⟨_, _, _, _, _, _⟩) (v := ?_) 1 rfl (.inl ⟨by rfl, ?_⟩) ?_; rotate_left
        · (intro wS hSw; (try dsimp only at hSw); go_simp); all_goals with_reducible rfl
        try go_frame
        refine tks (oi := ⟨_, _, _, _, _, _⟩) (v := ?_) 2 rfl (.inl ⟨by rfl, ?_⟩) ?_; rotate_left
        · (intro wS hSw; (try dsimp only at hSw); go_simp); all_goals with_reducible rfl
        try go_frame
        refine tks (oi := ⟨_, _, _, _, _, _⟩) (v := ?_) 3 rfl (.inl ⟨by rfl, ?_⟩) ?_; rotate_left
        · (intro wS hSw; (try dsimp only at hSw); go_simp); all_goals with_reducible rfl
        try go_frame
        refine tks (oi := ⟨_, _, _, _, _, _⟩) (v := ?_) 4 rfl (.inl ⟨by rfl, ?_⟩) ?_; rotate_left
        · (intro wS hSw; (try dsimp only at hSw); go_simp); all_goals with_reducible rfl
        try go_frame
        refine wpAnyH_ready (rs := [5]) (by kernel_rfl) (by simp) ?_
        refine AllReadyH.cons (o := ⟨_, _, _, _, _, _⟩) rfl (fun K hK => ?_) AllReadyH.nil
        go_simp
        refine (tag_any x A' c' _ (HAT.out _ hp2.drew) HSX.out T hT hTl).mono ?_; rintro e w3 ⟨rfl, hb3⟩
        go_wp2_with fail
        have hp3 : PK b w w3 := hp2.drew.trans (PK.of_below hbz2 hb3)
        have HB3 : Hid (Bld b acc w3) := builderF_below (w := w2.drew) HB2.out hb3
        have hbz3 : b ≤ w3.heap.size := by have := hp3.size; omega
        refine hK.out _ _ (hcell.out _ hp3) (fun hHeld => ?_)
        clear hK K
        try go_frame
        refine tks (oi := ⟨_, _, _, _, _, _⟩) (v := ?_) 6 rfl (.inl ⟨by rfl, ?_⟩) ?_; rotate_left
        · (intro wS hSw; (try dsimp only at hSw); go_simp); all_goals with_reducible rfl
        try go_frame
        refine wpAnyH_ready (rs := [7]) (by kernel_rfl) (by simp) ?_
        refine AllReadyH.cons (o := ⟨_, _, _, _, _, _⟩) rfl (fun K hK => ?_) AllReadyH.nil
        go_simp
        have hsz : (Lib.byteCells acc).length + ((⟨T.toArray⟩ : ByteArray) ++ ⟨([47, 62] : List UInt8).toArray⟩).size ≤ 140737488355328 := by
          rw [Lib.byteCells_length, ByteArray.size_append]
          show acc.length + (T.toArray.size + ([47, 62] : List UInt8).toArray.size) ≤ _
          simp only [List.size_toArray, List.length_cons, List.length_nil]
          omega
        refine (WriteK b b (Lib.byteCells acc) _ w3 HB3.out hsz hbz3).mono ?_
        rintro e w4 ⟨rfl, hB4, hb4, hk4⟩
        have hp4 : PK b w w4 := hp3.trans ⟨hb4, hk4⟩
        clear hsz
        go_wp2_with fail
        refine hK.out _ _ (hcell.out _ hp4) (fun hHeld => ?_)
        clear hK K
        try go_frame
        refine wpAnyH_done (by kernel_rfl) ?_ _
        clear hHeld htl
        go_wp2_with fail
        go_end0
        refine ⟨rfl, .inr ?_, hp4⟩
        rw [Lib.byteCells_append, HO2.out]
        rw [str_app, strCells_bytes] at hB4
        exact hB4
      · rw [if_neg hY0] at hO2
        have hTl2 : acc.length + (T.length + 1 + (pr Y).length + x.name.length + 3) ≤ 1000000000 := by
          rw [hO2] at hlen; simp at hlen; omega
        have hTl3 : acc.length + (T.length + 1) ≤ 1000000000 := by omega
        have hTl : T.length ≤ 1000000000 := by omega
        have hYp : 0 < Y.length := List.length_pos_iff.2 hY0
        have dE : ((E : Int) == (k : Int) + 1) = false := by
          have := hYl.out
          simp; omega
        have htl : ¬ (9223372036854775807 < T.length + 1) := by omega
        have HO2 := Lib.hid hO2
        clear hO2 hY0
        go_wp2_with fail
        clear dE d1 c0 c1 c2 c3 c4 c5 c6
        refine wp_region_held_drew (S := fun w' => w'.cell? ⟨lb, 0, none⟩ = some (.slice (some ad) N.length c) ∧ w'.cell? ⟨b + 1, 0, none⟩ = some (.func (.func 53) #[.pointer (some ⟨b, 0, none⟩)] #[]) ∧ w'.cell? (ad.add (k * 5)) = some (.int .i64 x.level) ∧ w'.cell? ⟨(ad.add (k * 5)).block, (ad.add (k * 5)).off + 1, none⟩ = some (.int .i64 x.kind) ∧ w'.cell? ⟨(ad.add (k * 5)).block, (ad.add (k * 5)).off + 2, none⟩ = some (.string ⟨x.name.toArray⟩) ∧ w'.cell? ⟨(ad.add (k * 5)).block, (ad.add (k * 5)).off + 3, none⟩ = some (.string ⟨x.text.toArray⟩) ∧ w'.cell? ⟨(ad.add (k * 5)).block, (ad.add (k * 5)).off + 4, none⟩ = some (.slice A' x.attrs.length c')) (by kernel_rfl) (hcell.out _ hp2.drew) (fun hHeld => ?_)
        refine tks (oi := ⟨_, _, _, _, _, _⟩) (v := ?_) 0 rfl (.inl ⟨by rfl, ?_⟩) ?_; rotate_left
        · (intro wS hSw; (try dsimp only at hSw); go_simp); all_goals with_reducible rfl
        try go_frame
        refine tks (oi := ⟨_, _, _, _, _, _⟩) (v := ?_) 1 rfl (.inl ⟨by rfl, ?_⟩) ?_; rotate_left
        · (intro wS hSw; (try dsimp only at hSw); go_simp); all_goals with_reducible rfl
        try go_frame
        refine tks (oi := ⟨_, _, _, _, _, _⟩) (v := ?_) 2 rfl (.inl ⟨by rfl, ?_⟩) ?_; rotate_left
        · (intro wS hSw; (try dsimp only at hSw); go_simp); all_goals with_reducible rfl
        try go_frame
        refine tks (oi := ⟨_, _, _, _, _, _⟩) (v := ?_) 3 rfl (.inl ⟨by rfl, ?_⟩) ?_; rotate_left
        · (intro wS hSw; (try dsimp only at hSw); go_simp); all_goals with_reducible rfl
        try go_frame
        refine tks (oi := ⟨_, _, _, _, _, _⟩) (v := ?_) 4 rfl (.inl ⟨by rfl, ?_⟩) ?_; rotate_left
        · (intro wS hSw; (try dsimp only at hSw); go_simp); all_goals with_reducible rfl
        try go_frame
        refine wpAnyH_ready (rs := [5]) (by kernel_rfl) (by simp) ?_
        refine AllReadyH.cons (o := ⟨_, _, _, _, _, _⟩) rfl (fun K hK => ?_) AllReadyH.nil
        go_simp
        refine (tag_any x A' c' _ (HAT.out _ hp2.drew) HSX.out T hT hTl).mono ?_; rintro e w3 ⟨rfl, hb3⟩
        go_wp2_with fail
        have hp3 : PK b w w3 := hp2.drew.trans (PK.of_below hbz2 hb3)
        have HB3 : Hid (Bld b acc w3) := builderF_below (w := w2.drew) HB2.out hb3
        have hbz3 : b ≤ w3.heap.size := by have := hp3.size; omega
        refine hK.out _ _ (hcell.out _ hp3) (fun hHeld => ?_)
        clear hK K
        try go_frame
        refine tks (oi := ⟨_, _, _, _, _, _⟩) (v := ?_) 6 rfl (.inl ⟨by rfl, ?_⟩) ?_; rotate_left
        · (intro wS hSw; (try dsimp only at hSw); go_simp); all_goals with_reducible rfl
        try go_frame
        refine wpAnyH_ready (rs := [7]) (by kernel_rfl) (by simp) ?_
        refine AllReadyH.cons (o := ⟨_, _, _, _, _, _⟩) rfl (fun K hK => ?_) AllReadyH.nil
        go_simp
        have hsz : (Lib.byteCells acc).length + ((⟨T.toArray⟩ : ByteArray) ++ ⟨([62] : List UInt8).toArray⟩).size ≤ 140737488355328 := by
          rw [Lib.byteCells_length, ByteArray.size_append]
          show acc.length + (T.toArray.size + ([62] : List UInt8).toArray.size) ≤ _
          simp only [List.size_toArray, List.length_cons, List.length_nil]
          omega
        refine (WriteK b b (Lib.byteCells acc) _ w3 HB3.out hsz hbz3).mono ?_
        rintro e w4 ⟨rfl, hB4, hb4, hk4⟩
        have hp4 : PK b w w4 := hp3.trans ⟨hb4, hk4⟩
        clear hsz
        go_wp2_with fail
        refine hK.out _ _ (hcell.out _ hp4) (fun hHeld => ?_)
        clear hK K
        try go_frame
        refine wpAnyH_done (by kernel_rfl) ?_ _
        clear hHeld htl
        have hbz4 : b ≤ w4.heap.size := by have := hp4.size; omega
        rw [str_app, strCells_bytes, ← Lib.byteCells_append] at hB4
        have HB4 : Hid (Bld b (acc ++ (T ++ [62])) w4) := .inr hB4
        have hkeq : Hid (pr Y = pr ((N.drop (k + 1)).take (E - (k + 1)))) := by show _ = _; rw [HKS.out]
        clear hB4 hk4 hb4 hb3
        go_wp2_with fail
        go_loopw [8] (fun i wr => ∃ (n : Nat) (s : List UInt8), k + 1 ≤ n ∧ n ≤ E ∧ i = .int .i64 n ∧ Hid (s ++ pr ((N.drop n).take (E - n)) = pr Y) ∧ Hid (Bld b (acc ++ (T ++ [62]) ++ s) wr) ∧ PK b w wr) (fun i _ => E - (intOf i).toNat)
        case atStart => exact ⟨k + 1, [], Nat.le_refl _, by omega, by go_num, by show _ = _; rw [hkeq.out]; rfl, by rw [List.append_nil]; exact HB4.out, hp4⟩
        case round =>
          obtain ⟨n, s, hkn, hnE, rfl, hs, hbl, hpr⟩ := hrel
          have hbzr : b ≤ wr.heap.size := by have := hpr.size; omega
          have hpv := hcellp.out wr hpr
          obtain ⟨c0, c1, c2, c3, c4, c5, c6⟩ := hcell.out wr hpr
          by_cases hlt : n < E
          · obtain ⟨y, hy⟩ : ∃ y, Hid (N[n]? = some y) := ⟨N[n]'(by omega), List.getElem?_eq_getElem _⟩
            obtain ⟨g1, g2, g3⟩ := HST.out n y (by omega) hlt hy.out
            have hs' := hs.out
            rw [g3] at hs'
            have hsl : (acc ++ (T ++ [62]) ++ s).length + (nodeAt N n).length ≤ 1000000000 := by
              have := congrArg List.length hs'
              simp only [List.length_append, List.length_cons, List.length_nil] at this ⊢
              omega
            obtain ⟨E2, hE2⟩ : ∃ E2, Hid (endN N n = E2) := ⟨_, rfl⟩
            rw [hE2.out] at g1 g2 hs'
            have HS' := Lib.hid hs'
            have hIH := IH.out n y (acc ++ (T ++ [62]) ++ s) wr (by omega) hy.out (HENV.out.keep hpr) hbl.out hsl
            obtain ⟨P, hP⟩ : ∃ P : List UInt8, Hid (acc ++ (T ++ [62]) ++ s ++ nodeAt N n = P) := ⟨acc ++ (T ++ [62]) ++ s ++ nodeAt N n, Lib.hid rfl⟩
            rw [hP.out] at hIH
            have HIH := Lib.hid hIH
            clear g3 hs' hsl hIH hs c2 c3 c4 c5 c6
            go_wp2_with fail
            refine HIH.out.mono ?_
            rintro e w5 ⟨rfl, hb5, hp5⟩
            have hp5' := hpr.trans hp5
            have hbz5 : b ≤ w5.heap.size := by have := hp5'.size; omega
            have HB5 := Lib.hid hb5
            clear c0 c1 hpv hb5
            obtain ⟨c0, _, _, _, _, _, _⟩ := hcell.out w5 hp5'
            go_wp2_with fail
            refine (End_in N ad c n y w5 ((HIT.out.below hp5'.1).more hbz5) hy.out hN1 E2 hE2).mono ?_
            rintro e w6 ⟨rfl, hb6⟩
            have hp6 := hp5'.trans (PK.of_below hbz5 hb6)
            have HB6 : Hid (Bld b P w6) := builderF_below HB5.out hb6
            go_wp2_with fail
            go_roundw
            case rel =>
              refine ⟨E2, s ++ nodeAt N n, by omega, g2, by go_num, ?_, ?_, hp6⟩
              · show _ = _
                rw [← HS'.out, List.append_assoc]
              · rw [← List.append_assoc, hP.out]; exact HB6.out
            case measure => simp [intOf]; omega
          · have hs' := hs.out
            rw [show E - n = 0 by omega, List.take_zero, pr_nil, List.append_nil] at hs'
            have hn' : n = E := by omega
            subst hn'
            rw [hs'] at hbl
            clear hs hs' hlt hpv
            clear c2 c3 c5 c6
            have htl2 : ¬ (9223372036854775807 < x.name.length + 2) := by omega
            have htl4 : ¬ (9223372036854775807 < 2 + x.name.length) := by omega
            have htl3 : ¬ (9223372036854775807 < x.name.length + 2 + 1) := by omega
            have htl5 : ¬ (9223372036854775807 < 2 + x.name.length + 1) := by omega
            have HBL := hbl
            clear hbl
            go_wp2_with fail
            clear c0 c1 c4
            refine wp_region_held_drew (S := fun w' => w'.cell? ⟨lb, 0, none⟩ = some (.slice (some ad) N.length c) ∧ w'.cell? ⟨b + 1, 0, none⟩ = some (.func (.func 53) #[.pointer (some ⟨b, 0, none⟩)] #[]) ∧ w'.cell? (ad.add (k * 5)) = some (.int .i64 x.level) ∧ w'.cell? ⟨(ad.add (k * 5)).block, (ad.add (k * 5)).off + 1, none⟩ = some (.int .i64 x.kind) ∧ w'.cell? ⟨(ad.add (k * 5)).block, (ad.add (k * 5)).off + 2, none⟩ = some (.string ⟨x.name.toArray⟩) ∧ w'.cell? ⟨(ad.add (k * 5)).block, (ad.add (k * 5)).off + 3, none⟩ = some (.string ⟨x.text.toArray⟩) ∧ w'.cell? ⟨(ad.add (k * 5)).block, (ad.add (k * 5)).off + 4, none⟩ = some (.slice A' x.attrs.length c')) (by kernel_rfl) (hcell.out _ hpr.drew) (fun hHeld => ?_)
            refine tks (oi := ⟨_, _, _, _, _, _⟩) (v := ?_) 0 rfl (.inl ⟨by rfl, ?_⟩) ?_; rotate_left
            · (intro wS hSw; (try dsimp only at hSw); go_simp); all_goals with_reducible rfl
            try go_frame
            refine tks (oi := ⟨_, _, _, _, _, _⟩) (v := ?_) 1 rfl (.inl ⟨by rfl, ?_⟩) ?_; rotate_left
            · (intro wS hSw; (try dsimp only at hSw); go_simp); all_goals with_reducible rfl
            try go_frame
            refine tks (oi := ⟨_, _, _, _, _, _⟩) (v := ?_) 2 rfl (.inl ⟨by rfl, ?_⟩) ?_; rotate_left
            · (intro wS hSw; (try dsimp only at hSw); go_simp); all_goals with_reducible rfl
            try go_frame
            refine tks (oi := ⟨_, _, _, _, _, _⟩) (v := ?_) 3 rfl (.inl ⟨by rfl, ?_⟩) ?_; rotate_left
            · (intro wS hSw; (try dsimp only at hSw); go_simp); all_goals with_reducible rfl
            try go_frame
            refine tks (oi := ⟨_, _, _, _, _, _⟩) (v := ?_) 4 rfl (.inl ⟨by rfl, ?_⟩) ?_; rotate_left
            · (intro wS hSw; (try dsimp only at hSw); go_simp); all_goals with_reducible rfl
            try go_frame
            refine tks (oi := ⟨_, _, _, _, _, _⟩) (v := ?_) 5 rfl (.inl ⟨by rfl, ?_⟩) ?_; rotate_left
            · (intro wS hSw; (try dsimp only at hSw); go_simp); all_goals with_reducible rfl
            try go_frame
            refine tks (oi := ⟨_, _, _, _, _, _⟩) (v := ?_) 6 rfl (.inl ⟨by rfl, ?_⟩) ?_; rotate_left
            · (intro wS hSw; (try dsimp only at hSw); go_simp); all_goals with_reducible rfl
            try go_frame
            refine tks (oi := ⟨_, _, _, _, _, _⟩) (v := ?_) 7 rfl (.inl ⟨by rfl, ?_⟩) ?_; rotate_left
            · (intro wS hSw; (try dsimp only at hSw); go_simp); all_goals with_reducible rfl
            try go_frame
            refine wpAnyH_ready (rs := [8]) (by kernel_rfl) (by simp) ?_
            refine AllReadyH.cons (o := ⟨_, _, _, _, _, _⟩) rfl (fun K hK => ?_) AllReadyH.nil
            go_simp
            have hsz : (Lib.byteCells (acc ++ (T ++ [62]) ++ pr Y)).length + ((⟨[60, 47].toArray⟩ : ByteArray) ++ ⟨x.name.toArray⟩ ++ ⟨[62].toArray⟩).size ≤ 140737488355328 := by
              rw [Lib.byteCells_length, ByteArray.size_append, ByteArray.size_append]
              show _ + (([60, 47] : List UInt8).toArray.size + x.name.toArray.size + ([62] : List UInt8).toArray.size) ≤ _
              simp only [List.size_toArray, List.length_append, List.length_cons, List.length_nil]
              omega
            refine (WriteK b b (Lib.byteCells (acc ++ (T ++ [62]) ++ pr Y)) _ wr.drew HBL.out hsz hbzr).mono ?_
            rintro e w7 ⟨rfl, hB7, hb7, hk7⟩
            have hp7 : PK b w w7 := hpr.drew.trans ⟨hb7, hk7⟩
            clear hsz
            go_wp2_with fail
            refine hK.out _ _ (hcell.out _ hp7) (fun hHeld => ?_)
            clear hK K
            try go_frame
            refine wpAnyH_done (by kernel_rfl) ?_ _
            clear hHeld htl2 htl3 htl4 htl5
            go_wp2_with fail
            go_end0
            refine ⟨rfl, .inr ?_, hp7⟩
            have e1 : acc ++ O = (acc ++ (T ++ [62]) ++ pr Y) ++ ([60, 47] ++ x.name ++ [62]) := by rw [HO2.out]; simp
            rw [e1, Lib.byteCells_append]
            rw [str_app, str_app, strCells_bytes] at hB7
            exact hB7
end Go.Proofs.Ythifddkmbjnncaa

/-
  The plain law of documents: what a row that was checked is; the two ways to print it come to the same. No program in sight.
-/
namespace Go.Proofs.Ythifddkmbjnncaa

/-! What was checked. -/
theorem checkF_ok : ∀ (l : List ItemD) (prev : Option ItemD) (k : Nat), (checkF prev k l).2 = 0 → ∀ (j : Nat) (x : ItemD), l[j]? = some x → oneE (if j = 0 then prev else l[j - 1]?) (k + j) x = 0
  | [], _, _, _, j, x, h => by simp at h
  | y :: r, prev, k, h, j, x, hx => by
    unfold checkF at h
    by_cases h0 : oneE prev k y = 0
    · rw [if_pos h0] at h
      cases j with
      | zero => simp at hx; subst hx; simpa using h0
      | succ j =>
        have := checkF_ok r (some y) (k + 1) h j x (by simpa using hx)
        rw [if_neg (by omega)]
        have e : (y :: r)[j + 1 - 1]? = if j = 0 then some y else r[j - 1]? := by
          cases j with
          | zero => rfl
          | succ j => simp
        rw [e, show k + (j + 1) = k + 1 + j by omega]
        exact this
    · rw [if_neg h0] at h; exact absurd h h0

structure Doc (l : List ItemD) : Prop where
  ne : l ≠ []
  one : ∀ (k : Nat) (x : ItemD), l[k]? = some x → oneE (prevOf l k) k x = 0
theorem checkL_ok {l : List ItemD} (h : (checkL l).2 = 0) : Doc l := by
  unfold checkL at h
  by_cases h0 : l = []
  · rw [if_pos h0] at h; cases h
  · rw [if_neg h0] at h
    refine ⟨h0, fun k x hx => ?_⟩
    have := checkF_ok l none 0 h k x hx
    rw [Nat.zero_add] at this
    exact this
theorem Doc.first {l : List ItemD} (h : Doc l) : ∃ x r, l = x :: r ∧ x.level = 0 ∧ x.kind = 1 := by
  cases l with
  | nil => exact absurd rfl h.ne
  | cons x r =>
    refine ⟨x, r, rfl, ?_⟩
    have h0 := (oneE_zero (h.one 0 x rfl)).1
    have : prevOf (x :: r) 0 = none := rfl
    rw [this] at h0
    unfold placeE at h0
    simp only at h0
    split at h0
    · omega
    · omega
theorem Doc.many {l : List ItemD} (h : Doc l) : l.length ≤ 1000 := by
  rcases Nat.lt_or_ge 1000 l.length with hl | hl
  · have hx : l[1000]? = some l[1000] := List.getElem?_eq_getElem hl
    have h0 := (oneE_zero (h.one 1000 _ hx)).1
    have hp : prevOf l 1000 = some (l[999]'(by omega)) := by unfold prevOf; rw [if_neg (by omega)]; exact List.getElem?_eq_getElem (by omega)
    rw [hp] at h0
    unfold placeE at h0
    simp only at h0
    split at h0
    · omega
    split at h0
    · omega
    · omega
  · exact hl

/-- how deep the next item may stand -/
def cap (x : ItemD) : Int := if x.kind = 2 then x.level else x.level + 1
def capC : Int → List ItemD → Prop
  | _, [] => True
  | c, x :: r => x.level ≤ c ∧ capC (cap x) r
theorem Doc.step {l : List ItemD} (h : Doc l) {k : Nat} {p x : ItemD} (hp : l[k]? = some p) (hx : l[k + 1]? = some x) : 1 ≤ x.level ∧ x.level ≤ cap p := by
  have h0 := (oneE_zero (h.one (k + 1) x hx)).1
  have e : prevOf l (k + 1) = some p := prevOf_succ hp
  rw [e] at h0
  unfold placeE at h0
  simp only at h0
  unfold cap
  split at h0
  · omega
  · split <;> omega
theorem capC_of {l : List ItemD} (hs : ∀ (k : Nat) (p x : ItemD), l[k]? = some p → l[k + 1]? = some x → x.level ≤ cap p) : ∀ (x : ItemD) (r : List ItemD), l = x :: r → capC x.level l := by
  have key : ∀ (r : List ItemD) (x : ItemD), (∀ (k : Nat) (p y : ItemD), (x :: r)[k]? = some p → (x :: r)[k + 1]? = some y → y.level ≤ cap p) → capC (cap x) r := by
    intro r
    induction r with
    | nil => intro x _; trivial
    | cons y r ih =>
      intro x h
      exact ⟨h 0 x y rfl rfl, ih y (fun k p z hp hz => h (k + 1) p z hp hz)⟩
  intro x r e
  subst e
  exact ⟨Int.le_refl _, key r x hs⟩
theorem Doc.cap {l : List ItemD} (h : Doc l) : capC 0 l ∧ ∀ y ∈ l, 0 ≤ y.level := by
  obtain ⟨x, r, rfl, hx0, _⟩ := h.first
  have := capC_of (fun k p y hp hy => (h.step hp hy).2) x r rfl
  rw [hx0] at this
  refine ⟨this, fun y hy => ?_⟩
  obtain ⟨k, hk⟩ := List.mem_iff_getElem?.1 hy
  exact (placeE_zero (oneE_zero (h.one k y hk)).1).1
theorem Doc.below {l : List ItemD} (h : Doc l) {x : ItemD} {r : List ItemD} (e : l = x :: r) : ∀ y ∈ r, 1 ≤ y.level := by
  subst e
  intro y hy
  obtain ⟨k, hk⟩ := List.mem_iff_getElem?.1 hy
  have h1 : (x :: r)[k + 1]? = some y := by simpa using hk
  have h2 : ∃ p, (x :: r)[k]? = some p := ⟨_, List.getElem?_eq_getElem (by have := (List.getElem?_eq_some_iff.1 h1).1; omega)⟩
  obtain ⟨p, hp⟩ := h2
  exact (h.step hp h1).1

/-! Made normal, item by item: the last one is held back. -/
def normP (p : ItemD) : List ItemD → List ItemD
  | [] => [p]
  | x :: r => if x.kind = 2 ∧ x.text = [] then normP p r
    else if x.kind = 2 ∧ p.kind = 2 ∧ p.level = x.level then normP { p with text := p.text ++ x.text } r
    else p :: normP x r
theorem fold_normP : ∀ (l out : List ItemD) (p : ItemD), l.foldl nstep (out ++ [p]) = out ++ normP p l
  | [], out, p => rfl
  | x :: l, out, p => by
    have hl : (out ++ [p])[(out ++ [p]).length - 1]? = some p := by simp
    rw [List.foldl_cons]
    by_cases h1 : x.kind = 2 ∧ x.text = []
    · rw [nstep_void h1.1 h1.2, fold_normP l out p, normP, if_pos h1]
    · by_cases h2 : x.kind = 2 ∧ p.kind = 2 ∧ p.level = x.level
      · have e : nstep (out ++ [p]) x = out ++ [{ p with text := p.text ++ x.text }] := by
          rw [nstep_join hl h2.1 (fun h => h1 ⟨h2.1, h⟩) h2.2.1 h2.2.2]
          simp
        rw [e, fold_normP l out _, normP, if_neg h1, if_pos h2]
      · rw [nstep_more hl h1 h2, fold_normP l (out ++ [p]) x, normP, if_neg h1, if_neg h2]
        simp
theorem normal_first {x : ItemD} {r : List ItemD} (h : x.kind = 1) : normalL (x :: r) = normP x r := by
  unfold normalL
  rw [List.foldl_cons, nstep_first (by rw [h]; simp)]
  exact fold_normP r [] x
theorem capC_more {c c' : Int} (h : c ≤ c') : ∀ {l : List ItemD}, capC c l → capC c' l
  | [], _ => trivial
  | _ :: _, hl => ⟨Int.le_trans hl.1 h, hl.2⟩
theorem normP_cap : ∀ (r : List ItemD) (p : ItemD) (c c' : Int), p.level ≤ c → c' ≤ cap p → capC c' r → capC c (normP p r)
  | [], p, c, c', h, _, _ => ⟨h, trivial⟩
  | x :: r, p, c, c', h, h', hr => by
    unfold normP
    split
    · rename_i h1
      refine normP_cap r p c (cap x) h ?_ hr.2
      have : cap x = x.level := by unfold cap; rw [if_pos h1.1]
      have := hr.1
      omega
    · split
      · rename_i h2
        refine normP_cap r _ c (cap x) h ?_ hr.2
        show cap x ≤ cap { p with text := _ }
        unfold cap
        rw [if_pos h2.1]
        show x.level ≤ (if p.kind = 2 then p.level else p.level + 1)
        rw [if_pos h2.2.1]; omega
      · exact ⟨h, normP_cap r x (cap p) (cap x) (by have := hr.1; omega) (Int.le_refl _) hr.2⟩
theorem normP_mem (P : Int → Prop) : ∀ (r : List ItemD) (p : ItemD), P p.level → (∀ y ∈ r, P y.level) → ∀ y ∈ normP p r, P y.level
  | [], p, hp, _, y, hy => by simp [normP] at hy; subst hy; exact hp
  | x :: r, p, hp, hr, y, hy => by
    unfold normP at hy
    split at hy
    · exact normP_mem P r p hp (fun z hz => hr z (by simp [hz])) y hy
    · split at hy
      · exact normP_mem P r { p with text := p.text ++ x.text } hp (fun z hz => hr z (by simp [hz])) y hy
      · rcases List.mem_cons.1 hy with rfl | hy
        · exact hp
        · exact normP_mem P r x (hr x (by simp)) (fun z hz => hr z (by simp [hz])) y hy
theorem normP_head : ∀ (r : List ItemD) (p : ItemD), p.kind = 1 → ∃ s, normP p r = p :: s ∧ ∀ (P : Int → Prop), (∀ y ∈ r, P y.level) → ∀ y ∈ s, P y.level
  | [], p, _ => ⟨[], rfl, fun _ _ _ h => by cases h⟩
  | x :: r, p, hp => by
    unfold normP
    split
    · obtain ⟨s, h1, h2⟩ := normP_head r p hp
      exact ⟨s, h1, fun P hP => h2 P (fun z hz => hP z (by simp [hz]))⟩
    · rw [if_neg (by rw [hp]; simp)]
      exact ⟨_, rfl, fun P hP => normP_mem P r x (hP x (by simp)) (fun z hz => hP z (by simp [hz]))⟩

/-- what a document is when it has been made normal -/
structure Shape (N : List ItemD) (x : ItemD) (s : List ItemD) : Prop where
  eq : N = x :: s
  level : x.level = 0
  kind : x.kind = 1
  cap : capC 0 N
  zero : ∀ y ∈ N, 0 ≤ y.level
  past : ∀ y ∈ s, 1 ≤ y.level
theorem Doc.normal {l : List ItemD} (h : Doc l) : ∃ x s, Shape (normalL l) x s := by
  obtain ⟨x, r, e, h0, h1⟩ := h.first
  have hc := h.cap
  have hb := h.below e
  subst e
  obtain ⟨s, e2, h2⟩ := normP_head r x h1
  refine ⟨x, s, by rw [normal_first h1]; exact e2, h0, h1, ?_, ?_, h2 (1 ≤ ·) hb⟩
  · rw [normal_first h1]
    exact normP_cap r x 0 (Go.Proofs.Ythifddkmbjnncaa.cap x) (by omega) (Int.le_refl _) hc.1.2
  · rw [normal_first h1, e2]
    intro y hy
    rcases List.mem_cons.1 hy with rfl | hy
    · omega
    · have := h2 (1 ≤ ·) hb y hy; omega

/-! The document's way to print: what is open is closed ahead of what is not in it. -/
def closeT (n : List UInt8) : List UInt8 := [60, 47] ++ n ++ [62]
def pops (L : Int) : List (List UInt8) → List UInt8 × List (List UInt8)
  | [] => ([], [])
  | n :: o => if L < (o.length + 1 : Nat) then (closeT n ++ (pops L o).1, (pops L o).2) else ([], n :: o)
def leafB (x : ItemD) : List ItemD → Bool
  | [] => true
  | y :: _ => decide (y.level ≤ x.level)
def mach : List (List UInt8) → List ItemD → List UInt8
  | o, [] => o.flatMap closeT
  | o, x :: r => (pops x.level o).1 ++ (if x.kind = 2 then escT x.text ++ mach (pops x.level o).2 r
      else if leafB x r then tagL x ++ [47, 62] ++ mach (pops x.level o).2 r else tagL x ++ [62] ++ mach (x.name :: (pops x.level o).2) r)
theorem pops_none {L : Int} {o : List (List UInt8)} (h : (o.length : Int) ≤ L) : pops L o = ([], o) := by
  cases o with
  | nil => rfl
  | cons n o => unfold pops; rw [if_neg (by simp at h ⊢; omega)]
theorem mach_pop {n : List UInt8} {o : List (List UInt8)} {s : List ItemD} (h : ∀ y t, s = y :: t → y.level ≤ o.length) : mach (n :: o) s = closeT n ++ mach o s := by
  cases s with
  | nil => rfl
  | cons y t =>
    have := h y t rfl
    unfold mach
    have e : pops y.level (n :: o) = (closeT n ++ (pops y.level o).1, (pops y.level o).2) := by
      rw [pops, if_pos (by simp; omega)]
    rw [e]
    simp
theorem mach_text {o : List (List UInt8)} {x : ItemD} {r : List ItemD} (hl : (o.length : Int) ≤ x.level) (hk : x.kind = 2) : mach o (x :: r) = escT x.text ++ mach o r := by
  rw [mach, pops_none hl, if_pos hk]; rfl
theorem mach_leaf {o : List (List UInt8)} {x : ItemD} {r : List ItemD} (hl : (o.length : Int) ≤ x.level) (hk : x.kind ≠ 2) (h : leafB x r = true) : mach o (x :: r) = tagL x ++ [47, 62] ++ mach o r := by
  rw [mach, pops_none hl, if_neg hk, if_pos h]; rfl
theorem mach_open {o : List (List UInt8)} {x : ItemD} {r : List ItemD} (hl : (o.length : Int) ≤ x.level) (hk : x.kind ≠ 2) (h : leafB x r = false) : mach o (x :: r) = tagL x ++ [62] ++ mach (x.name :: o) r := by
  rw [mach, pops_none hl, if_neg hk, if_neg (by simp [h])]; rfl

theorem capC_split : ∀ (a b : List ItemD) (c : Int), capC c (a ++ b) → capC c a ∧ ∃ c', capC c' b
  | [], b, c, h => ⟨trivial, c, h⟩
  | x :: a, b, c, h => by
    obtain ⟨h1, c', h2⟩ := capC_split a b (cap x) h.2
    exact ⟨⟨h.1, h1⟩, c', h2⟩
theorem capC_head {c c' : Int} : ∀ {l : List ItemD}, capC c l → (∀ y t, l = y :: t → y.level ≤ c') → capC c' l
  | [], _, _ => trivial
  | y :: t, h, h' => ⟨h' y t rfl, h.2⟩
theorem kids_nil {c : Int} {r : List ItemD} (h : capC c r) : kidsOf c r = [] ∧ pastOf c r = r := by
  cases r with
  | nil => exact ⟨rfl, rfl⟩
  | cons y r =>
    have := h.1
    have hd : decide (c < y.level) = false := by simp; omega
    constructor
    · show List.takeWhile _ (y :: r) = []
      rw [List.takeWhile_cons, hd]; rfl
    · show List.dropWhile _ (y :: r) = _
      rw [List.dropWhile_cons, hd]; rfl

theorem mach_seg : ∀ (n : Nat) (b : List ItemD) (o : List (List UInt8)) (rest : List ItemD), b.length ≤ n → (∀ y ∈ b, (o.length : Int) ≤ y.level) → capC o.length b → (∀ y t, rest = y :: t → y.level ≤ o.length) → mach o (b ++ rest) = pr b ++ mach o rest := by
  intro n
  induction n with
  | zero =>
    intro b o rest hb _ _ _
    have : b = [] := List.eq_nil_of_length_eq_zero (by omega)
    subst this
    rw [pr_nil]; rfl
  | succ n ih =>
    intro b o rest hb hlow hcap hrest
    cases b with
    | nil => rw [pr_nil]; rfl
    | cons x r =>
      have hx1 := hlow x (by simp)
      have hx2 := hcap.1
      have hxl : x.level = o.length := by omega
      have hr := hcap.2
      have hlr : ∀ y ∈ r, (o.length : Int) ≤ y.level := fun y hy => hlow y (by simp [hy])
      have hbl : r.length ≤ n := by simp at hb; omega
      rw [pr_cons, List.cons_append]
      by_cases hk : x.kind = 2
      · have hcx : cap x = x.level := by unfold cap; rw [if_pos hk]
        rw [hcx] at hr
        obtain ⟨k1, k2⟩ := kids_nil hr
        have hr' : capC o.length r := by rw [← hxl]; exact hr
        rw [mach_text hx1 hk, ih r o rest hbl hlr hr' hrest, k1, k2]
        have : nodeL x [] (pr []) = escT x.text := by unfold nodeL; rw [if_pos hk]
        rw [this, List.append_assoc]
      · have hcx : cap x = x.level + 1 := by unfold cap; rw [if_neg hk]
        rw [hcx] at hr
        have hsplit := kids_past x.level r
        have hpast : ∀ y t, pastOf x.level r = y :: t → y.level ≤ x.level := fun y t h => past_head x.level r y t h
        have hpr : ∀ y t, pastOf x.level r ++ rest = y :: t → y.level ≤ (o.length : Int) := by
          intro y t h
          cases hp : pastOf x.level r with
          | nil => rw [hp] at h; exact hrest y t h
          | cons z s =>
            rw [hp] at h
            injection h with h1 _
            subst h1
            have := hpast z s hp
            omega
        rw [← hsplit] at hr
        obtain ⟨hc1, c', hc2⟩ := capC_split _ _ _ hr
        have hc2' : capC o.length (pastOf x.level r) := capC_head hc2 (fun y t h => by have := hpast y t h; omega)
        have hkl := kidsOf_le x.level r
        have hpl := pastOf_le x.level r
        have hlp : ∀ y ∈ pastOf x.level r, (o.length : Int) ≤ y.level := fun y hy => hlr y (by rw [← hsplit]; simp [hy])
        by_cases hkn : kidsOf x.level r = []
        · have hleaf : leafB x (r ++ rest) = true := by
            have e : r ++ rest = pastOf x.level r ++ rest := by
              conv => lhs; rw [← hsplit]
              rw [hkn]; rfl
            rw [e]
            cases hp : pastOf x.level r ++ rest with
            | nil => rfl
            | cons y t => have := hpr y t hp; show decide _ = true; simp; omega
          have e : r = pastOf x.level r := by
            conv => lhs; rw [← hsplit]
            rw [hkn]; rfl
          rw [mach_leaf hx1 hk hleaf, hkn]
          have : nodeL x [] (pr []) = tagL x ++ [47, 62] := by unfold nodeL; rw [if_neg hk, if_pos rfl]
          rw [this]
          conv => lhs; rw [e]
          rw [ih _ o rest (by omega) hlp hc2' hrest]
          simp
        · obtain ⟨y, t, hyt⟩ := List.exists_cons_of_ne_nil hkn
          have hyl : x.level < y.level := kids_mem x.level r y (by rw [hyt]; simp)
          have hleaf : leafB x (r ++ rest) = false := by
            have e : r ++ rest = y :: (t ++ (pastOf x.level r ++ rest)) := by
              conv => lhs; rw [← hsplit]
              rw [hyt]; simp
            rw [e]
            show decide _ = false
            simp; omega
          rw [mach_open hx1 hk hleaf]
          have e : r ++ rest = kidsOf x.level r ++ (pastOf x.level r ++ rest) := by
            conv => lhs; rw [← hsplit]
            rw [List.append_assoc]
          have hcl : ((x.name :: o).length : Int) = x.level + 1 := by simp; omega
          rw [e, ih (kidsOf x.level r) (x.name :: o) (pastOf x.level r ++ rest) (by omega)
            (fun z hz => by have := kids_mem x.level r z hz; omega) (by rw [hcl]; exact hc1)
            (fun z u h => by have := hpr z u h; omega)]
          rw [mach_pop hpr, ih (pastOf x.level r) o rest (by omega) hlp hc2' hrest]
          have : nodeL x (kidsOf x.level r) (pr (kidsOf x.level r)) = tagL x ++ [62] ++ pr (kidsOf x.level r) ++ closeT x.name := by
            unfold nodeL; rw [if_neg hk, if_neg hkn]; rfl
          rw [this]
          simp

theorem all_kids (c : Int) : ∀ (s : List ItemD), (∀ y ∈ s, c < y.level) → kidsOf c s = s ∧ pastOf c s = []
  | [], _ => ⟨rfl, rfl⟩
  | y :: s, h => by
    obtain ⟨h1, h2⟩ := all_kids c s (fun z hz => h z (by simp [hz]))
    have hd : decide (c < y.level) = true := by have := h y (by simp); simpa using this
    constructor
    · show List.takeWhile _ (y :: s) = _
      rw [List.takeWhile_cons, hd]
      show y :: kidsOf c s = _
      rw [h1]
    · show List.dropWhile _ (y :: s) = _
      rw [List.dropWhile_cons, hd]
      exact h2
theorem Shape.pr {N : List ItemD} {x : ItemD} {s : List ItemD} (h : Shape N x s) : pr N = nodeAt N 0 := by
  rw [h.eq, pr_cons]
  have hk : kidsOf x.level s = s ∧ pastOf x.level s = [] := all_kids x.level s (fun y hy => by have := h.past y hy; have := h.level; omega)
  rw [hk.2, pr_nil, List.append_nil]
  rfl
theorem Shape.mach {N : List ItemD} {x : ItemD} {s : List ItemD} (h : Shape N x s) : mach [] N = nodeAt N 0 := by
  have := mach_seg N.length N [] [] (Nat.le_refl _) (fun y hy => by have := h.zero y hy; simpa using this) (by simpa using h.cap) (fun y t h => by cases h)
  rw [List.append_nil] at this
  rw [this, ← h.pr]
  show Go.Proofs.Ythifddkmbjnncaa.pr N ++ [] = _
  rw [List.append_nil]
end Go.Proofs.Ythifddkmbjnncaa

/-
  The plain law of sizes: a document that was checked is printed in not many bytes. No program in sight.
-/
namespace Go.Proofs.Ythifddkmbjnncaa

theorem charsF_le (f : Nat) : ∀ (l : List UInt8) (cs : List Int), charsF f l = some cs → cs.length ≤ l.length := by
  induction f with
  | zero =>
    intro l cs h
    unfold charsF at h
    split at h
    · injection h with h; subst h; simp
    · cases h
  | succ f ih =>
    intro l cs h
    unfold charsF at h
    split at h
    · injection h with h; subst h; simp
    · rename_i hl
      split at h
      · cases h
      · rename_i hn
        obtain ⟨ds, hd, rfl⟩ := Option.map_eq_some_iff.1 h
        have := ih _ _ hd
        have hp : 0 < l.length := List.length_pos_iff.2 hl
        rw [List.length_drop] at this
        rw [List.length_cons]; omega
theorem esc_fit (v : Bool) (l : List UInt8) : ((escL v l).getD []).length ≤ 6 * l.length := by
  unfold escL
  cases hc : charsL l with
  | none => simp
  | some cs =>
    have hl := charsF_le _ _ _ hc
    show (cs.flatMap (writtenL v)).length ≤ _
    have : ∀ cs : List Int, (cs.flatMap (writtenL v)).length ≤ 6 * cs.length := by
      intro cs
      induction cs with
      | nil => simp
      | cons c cs ih =>
        have h1 := writtenL_len v c
        simp only [List.flatMap_cons, List.length_append, List.length_cons]
        omega
    have := this cs
    omega

/-! What was checked is not long. -/
structure Fit (x : ItemD) : Prop where
  name : x.name.length ≤ 60
  attrs : x.attrs.length ≤ 20
  each : ∀ a ∈ x.attrs, a.name.length ≤ 60 ∧ a.value.length ≤ 1500
theorem nameL_len {l : List UInt8} (h : nameL l = true) : l.length ≤ 60 := by
  unfold nameL at h
  split at h
  · simp only [Bool.and_eq_true, decide_eq_true_eq] at h; exact h.1
  · cases h
theorem charsE_len {l : List UInt8} (h : charsE l = 0) : l.length ≤ 1500 := by
  unfold charsE at h
  split at h
  · omega
  · split at h
    · omega
    · omega
theorem attrNames_mem : ∀ (l : List AttrD) (last : List UInt8), attrNames last l = true → ∀ a ∈ l, a.name.length ≤ 60
  | [], _, _, _, h => by cases h
  | b :: l, last, h, a, ha => by
    simp only [attrNames, Bool.and_eq_true] at h
    rcases List.mem_cons.1 ha with rfl | ha
    · exact nameL_len h.1.1
    · exact attrNames_mem l b.name h.2 a ha
theorem valuesE_mem : ∀ (l : List AttrD), valuesE l = 0 → ∀ a ∈ l, a.value.length ≤ 1500
  | [], _, _, h => by cases h
  | b :: l, h, a, ha => by
    unfold valuesE at h
    by_cases h0 : charsE b.value = 0
    · rw [if_pos h0] at h
      rcases List.mem_cons.1 ha with rfl | ha
      · exact charsE_len h0
      · exact valuesE_mem l h a ha
    · rw [if_neg h0] at h; exact absurd h h0
theorem parts_fit {x : ItemD} (h : partsE x = 0) : Fit x ∧ x.text.length ≤ 1500 := by
  unfold partsE at h
  split at h
  · rename_i h1
    refine ⟨⟨by rw [h1.2.1]; simp, by rw [h1.2.2]; simp, by rw [h1.2.2]; simp⟩, charsE_len h⟩
  · split at h
    · omega
    · rename_i h2
      have ht : x.text = [] := Decidable.of_not_not fun h => h2 (.inr h)
      by_cases h3 : namesE x = 0
      · rw [if_pos h3] at h
        unfold namesE at h3
        by_cases h4 : (nameL x.name && attrNames [] x.attrs) = true
        · rw [if_pos h4] at h3
          simp only [Bool.and_eq_true] at h4
          refine ⟨⟨nameL_len h4.1, ?_, fun a ha => ⟨attrNames_mem _ _ h4.2 a ha, valuesE_mem _ h a ha⟩⟩, by rw [ht]; simp⟩
          by_cases h5 : 20 < x.attrs.length
          · rw [if_pos h5] at h3; cases h3
          · omega
        · rw [if_neg h4] at h3; cases h3
      · rw [if_neg h3] at h; exact absurd h h3
theorem attrs_fit : ∀ (l : List AttrD), (∀ a ∈ l, a.name.length ≤ 60 ∧ a.value.length ≤ 1500) → (l.flatMap attrT).length ≤ l.length * 9064
  | [], _ => by simp
  | a :: l, h => by
    have h1 := h a (by simp)
    have h2 := attrs_fit l (fun b hb => h b (by simp [hb]))
    have h3 : (escV a.value).length ≤ 6 * a.value.length := esc_fit true a.value
    simp only [List.flatMap_cons, List.length_append, List.length_cons, attrT]
    have e1 : ([] : List UInt8).length = 0 := rfl
    omega
theorem tag_fit {x : ItemD} (h : Fit x) : (tagL x).length ≤ 181341 := by
  have h1 := attrs_fit x.attrs h.each
  have h2 := h.attrs
  have h3 := h.name
  unfold tagL
  simp only [List.length_append, List.length_cons, List.length_nil]
  omega

/-- what an item costs -/
def cost (x : ItemD) : Nat := 6 * x.text.length + (tagL x).length + x.name.length + 6
theorem node_cost (x : ItemD) (k : List ItemD) (i : List UInt8) : (nodeL x k i).length ≤ cost x + i.length := by
  have := esc_fit false x.text
  unfold nodeL cost
  split
  · show (escT x.text).length ≤ _
    unfold escT; omega
  · split
    · simp; omega
    · simp; omega
theorem pr_cost : ∀ (n : Nat) (l : List ItemD), l.length ≤ n → (pr l).length ≤ (l.map cost).sum := by
  intro n
  induction n with
  | zero => intro l h; rw [List.eq_nil_of_length_eq_zero (by omega : l.length = 0), pr_nil]; simp
  | succ n ih =>
    intro l h
    cases l with
    | nil => rw [pr_nil]; simp
    | cons x r =>
      have hk := kidsOf_le x.level r
      have hp := pastOf_le x.level r
      simp at h
      have h1 := node_cost x (kidsOf x.level r) (pr (kidsOf x.level r))
      have h2 := ih (kidsOf x.level r) (by omega)
      have h3 := ih (pastOf x.level r) (by omega)
      have h4 := congrArg (fun l : List ItemD => (l.map cost).sum) (kids_past x.level r)
      simp only [List.map_append, List.sum_append] at h4
      rw [pr_cons, List.length_append, List.map_cons, List.sum_cons]
      omega

theorem textSum_set : ∀ (l : List ItemD) (i : Nat) (p q : ItemD), l[i]? = some p → textSum (l.set i q) + p.text.length = textSum l + q.text.length
  | [], _, _, _, h => by simp at h
  | x :: l, 0, p, q, h => by
    simp at h; subst h
    simp [textSum]; omega
  | x :: l, i + 1, p, q, h => by
    have := textSum_set l i p q (by simpa using h)
    simp only [textSum, List.set_cons_succ, List.map_cons, List.sum_cons] at this ⊢
    omega
theorem textSum_step (out : List ItemD) (x : ItemD) : textSum (nstep out x) ≤ textSum out + x.text.length := by
  unfold nstep
  split
  · omega
  · split
    · rw [textSum_snoc]
      exact Nat.le_refl _
    · rename_i p hp
      split
      · have := textSum_set out _ p { p with text := p.text ++ x.text } hp
        simp at this; omega
      · rw [textSum_snoc]
        exact Nat.le_refl _
theorem textSum_fold : ∀ (l out : List ItemD), textSum (l.foldl nstep out) ≤ textSum out + textSum l
  | [], out => by simp [textSum]
  | x :: l, out => by
    have h1 := textSum_fold l (nstep out x)
    have h2 := textSum_step out x
    have h3 : textSum (x :: l) = x.text.length + textSum l := by simp [textSum]
    rw [List.foldl_cons]
    omega
theorem cost_sum : ∀ (l : List ItemD), (∀ x ∈ l, Fit x) → (l.map cost).sum ≤ 6 * textSum l + l.length * 181407
  | [], _ => by simp
  | x :: l, h => by
    have h1 := cost_sum l (fun y hy => h y (by simp [hy]))
    have h2 := tag_fit (h x (by simp))
    have h3 := (h x (by simp)).name
    have h4 : textSum (x :: l) = x.text.length + textSum l := by simp [textSum]
    have h5 : cost x = 6 * x.text.length + (tagL x).length + x.name.length + 6 := rfl
    rw [List.map_cons, List.sum_cons, List.length_cons, h4]
    omega
theorem textSum_fit : ∀ (l : List ItemD), (∀ x ∈ l, x.text.length ≤ 1500) → textSum l ≤ l.length * 1500
  | [], _ => by simp [textSum]
  | x :: l, h => by
    have h1 := textSum_fit l (fun y hy => h y (by simp [hy]))
    have h2 := h x (by simp)
    have h4 : textSum (x :: l) = x.text.length + textSum l := by simp [textSum]
    rw [h4, List.length_cons]; omega

theorem Doc.parts {l : List ItemD} (h : Doc l) : ∀ x ∈ l, Fit x ∧ x.text.length ≤ 1500 := fun x hx => by
  obtain ⟨k, hk⟩ := List.mem_iff_getElem?.1 hx
  exact parts_fit (oneE_zero (h.one k x hk)).2
theorem Doc.fits {l : List ItemD} (h : Doc l) : (∀ x ∈ normalL l, Fit x) ∧ (normalL l).length ≤ 1000 ∧ textSum (normalL l) ≤ 1500000 := by
  have hp := h.parts
  have hm := h.many
  have h1 := normal_fold_mem Fit l [] 0 (fun _ h => by cases h) (fun x hx => ⟨(hp x hx).1.name, (hp x hx).1.attrs, (hp x hx).1.each⟩)
  have h2 := textSum_fold l []
  have h3 := textSum_fit l (fun x hx => (hp x hx).2)
  refine ⟨fun x hx => ?_, Nat.le_trans h1.2 (by simpa using hm), ?_⟩
  · have := (h1.1 x hx).1
    exact ⟨this.name, this.attrs, this.each⟩
  · have e : textSum ([] : List ItemD) = 0 := rfl
    show textSum (l.foldl nstep []) ≤ _
    omega
theorem Doc.small {l : List ItemD} (h : Doc l) : (nodeAt (normalL l) 0).length ≤ 250000000 := by
  obtain ⟨x, s, hs⟩ := h.normal
  obtain ⟨f1, f2, f3⟩ := h.fits
  rw [← hs.pr]
  have h1 := pr_cost _ (normalL l) (Nat.le_refl _)
  have h2 := cost_sum _ f1
  omega
end Go.Proofs.Ythifddkmbjnncaa

/-
  The walk of parse.Check.
-/
namespace Go.Proofs.Ythifddkmbjnncaa
open Go.RowKit

theorem place_any (l : List ItemD) (A : Option Addr) (c k : Nat) (x : ItemD) (w : World) (hA : ItemsAt w w.heap.size A l) (hx : l[k]? = some x) (hlen : l.length ≤ 1000000000) (hpl : ∀ p, prevOf l k = some p → 0 ≤ p.level ∧ p.level < 40) (V : Int) (hV : Hid (placeE (prevOf l k) k x = V)) :
    Calls Try.prog 50 #[.slice A l.length c, .int .i64 k] w (Ret w (.int .i64 V)) := by
  have hl : k < l.length := (List.getElem?_eq_some_iff.1 hx).1
  obtain ⟨ad, rfl, _⟩ := hA (by omega)
  by_cases hk : k = 0
  · subst hk
    exact place_first l ad c x w hA hx hlen V hV
  · have hp : l[k - 1]? = some l[k - 1] := List.getElem?_eq_getElem _
    have he : prevOf l k = some l[k - 1] := by unfold prevOf; rw [if_neg hk, hp]
    have hb := hpl _ he
    rw [he] at hV
    exact place_later l ad c k x _ w hA (by omega) hx hp hlen (by omega) V hV

set_option maxRecDepth 100000 in
set_option maxHeartbeats 2000000 in
theorem Check_any (l : List ItemD) (A : Option Addr) (c : Nat) (w : World) (hA : ItemsAt w w.heap.size A l) (hs : SmallItems l) (n e : Int) (hV : Hid (checkL l = (n, e))) :
    Calls Try.prog 31 #[.slice A l.length c] w (Ret w (.tuple #[.int .i64 n, .int .i64 e])) := by
  obtain ⟨hs1, hs2⟩ := hs
  have HS := Lib.hid hs2
  have HA := Lib.hid hA
  clear hs2 hA
  by_cases h0 : l = []
  · have hv : Hid (n = 0 ∧ e = 40) := by
      have := hV.out
      unfold checkL at this
      rw [if_pos h0] at this
      injection this with a b
      exact ⟨a.symm, b.symm⟩
    have hlen : l.length = 0 := by rw [h0]; rfl
    rw [hlen]
    clear h0 hV hs1 hlen
    go_enter Try.func31, Try.ntmps31
    go_wp2_with fail
    go_ret2
    obtain ⟨rfl, rfl⟩ := hv.out
    exact ⟨rfl, Below.refl _ _⟩
  · have hpos : 0 < l.length := List.length_pos_iff.2 h0
    have hC : Hid (checkF (prevOf l 0) 0 (l.drop 0) = (n, e)) := by
      have := hV.out
      unfold checkL at this
      rw [if_neg h0] at this
      exact this
    have t0 : ((l.length : Int) == 0) = false := by simp; omega
    clear h0 hV
    go_enter Try.func31, Try.ntmps31
    go_wp2_with fail
    go_loopw [12] (fun i wr => ∃ (k : Nat), k ≤ l.length ∧ i = .int .i64 k ∧ Hid (checkF (prevOf l k) k (l.drop k) = (n, e)) ∧ Hid (∀ p, prevOf l k = some p → 0 ≤ p.level ∧ p.level < 40) ∧ Below w.heap.size w wr) (fun i _ => l.length - (intOf i).toNat)
    case atStart => exact ⟨0, Nat.zero_le _, rfl, hC, fun p hp => by simp [prevOf] at hp, Below.refl _ _⟩
    case round =>
      obtain ⟨k, hk, rfl, hin, hpv, hbel⟩ := hrel
      have hzr := hbel.size
      by_cases hlt : k < l.length
      · obtain ⟨x, hx⟩ : ∃ x, Hid (l[k]? = some x) := ⟨l[k], List.getElem?_eq_getElem _⟩
        have hAr := HA.out.below hbel
        obtain ⟨ad, hAd, _⟩ := hAr (by omega)
        subst hAd
        obtain ⟨hbl, A', c', hat, _, h0, h1, h2, h3, h4⟩ := hAr.item hx.out
        unfold strV at h2 h3
        have HAR := Lib.hid hAr
        have HAT := Lib.hid hat
        clear hAr hat
        have hsx := Lib.hid (HS.out k x hx.out)
        have hin' := hin.out
        rw [checkF_drop hx.out] at hin'
        have hlt' : (k : Int) < l.length := by omega
        obtain ⟨q, hq⟩ : ∃ q, Hid (placeE (prevOf l k) k x = q) := ⟨_, rfl⟩
        obtain ⟨W1, hW1⟩ : ∃ W1, Hid (W1 = wr.alloc (.cells #[.int .i64 x.level, .int .i64 x.kind, .string ⟨x.name.toArray⟩, .string ⟨x.text.toArray⟩, .slice A' x.attrs.length c'] 50)) := ⟨_, rfl⟩
        have hbW : Below wr.heap.size wr W1 := by rw [hW1.out]; exact (Below.refl _ wr).alloc (Nat.le_refl _) _
        have hzW : wr.heap.size < W1.heap.size := by rw [hW1.out]; simp
        have hcs : Hid (∀ w', Below W1.heap.size W1 w' → w'.cell? ⟨wr.heap.size, 0, none⟩ = some (.int .i64 x.level) ∧ w'.cell? ⟨wr.heap.size, 1, none⟩ = some (.int .i64 x.kind) ∧ w'.cell? ⟨wr.heap.size, 2, none⟩ = some (.string ⟨x.name.toArray⟩) ∧ w'.cell? ⟨wr.heap.size, 3, none⟩ = some (.string ⟨x.text.toArray⟩) ∧ w'.cell? ⟨wr.heap.size, 4, none⟩ = some (.slice A' x.attrs.length c')) := fun w' hb => by
          refine ⟨?_, ?_, ?_, ?_, ?_⟩
          all_goals
            rw [hb.cell (by exact hzW), hW1.out, World.cell?_alloc_at _ _ _ _ (by simp)]; rfl
        clear hbl
        go_wp2_with fail
        rw [← hW1.out]
        refine (place_any l (some ad) c k x W1 ((HAR.out.below (hbW.mono hzr)).more (by omega)) hx.out hs1 hpv.out q hq).mono ?_; rintro e2 w2 ⟨rfl, hb2⟩
        obtain ⟨c0, c1, c2, c3, c4⟩ := hcs.out _ hb2
        have hb2' : Below w.heap.size w w2 := hbel.trans ((hbW.mono hzr).trans (hb2.mono (by omega)))
        clear h0 h1 h2 h3 h4
        by_cases hq0 : q = 0
        · obtain ⟨f, hf⟩ : ∃ f, Hid (partsE x = f) := ⟨_, rfl⟩
          have ho : oneE (prevOf l k) k x = f := by unfold oneE; rw [hq.out, if_pos hq0]; exact hf.out
          rw [ho] at hin'
          subst hq0
          by_cases hf0 : f = 0
          · rw [if_pos hf0] at hin'
            have HIN := Lib.hid hin'
            have hpv' : Hid (∀ p, prevOf l (k + 1) = some p → 0 ≤ p.level ∧ p.level < 40) := fun p hp => by
              rw [prevOf_succ hx.out] at hp
              injection hp with hp; subst hp
              exact placeE_zero hq.out
            subst hf0
            clear hin' hin ho hpv
            go_wp2_with fail
            refine (parts_any x A' c' w2 ((HAT.out.below (hbW.mono hzr |>.trans (hb2.mono (by omega)))).more hb2'.size) hsx.out 0 hf).mono ?_; rintro e3 w3 ⟨rfl, hb3⟩
            have hb3' : Below w.heap.size w w3 := hb2'.trans (hb3.mono hb2'.size)
            go_wp2_with fail
            go_roundw
            case rel => exact ⟨k + 1, by omega, by go_num, HIN, hpv', hb3'⟩
            case measure => simp [intOf]; omega
          · rw [if_neg hf0] at hin'
            have HIN := Lib.hid hin'
            have tf : (f != 0) = true := by simp [hf0]
            clear hin' hin ho hpv hf0
            go_wp2_with fail
            refine (parts_any x A' c' w2 ((HAT.out.below (hbW.mono hzr |>.trans (hb2.mono (by omega)))).more hb2'.size) hsx.out f hf).mono ?_; rintro e3 w3 ⟨rfl, hb3⟩
            have hb3' : Below w.heap.size w w3 := hb2'.trans (hb3.mono hb2'.size)
            go_wp2_with fail
            go_ret2
            have := HIN.out
            injection this with a b
            subst a; subst b
            exact ⟨rfl, hb3'⟩
        · have ho : oneE (prevOf l k) k x = q := by unfold oneE; rw [hq.out, if_neg hq0]
          rw [ho, if_neg hq0] at hin'
          have HIN := Lib.hid hin'
          have tq : (q == 0) = false := by simp [hq0]
          have tq' : (q != 0) = true := by simp [hq0]
          clear hin' hin ho hpv hq0
          go_wp2_with fail
          go_ret2
          have := HIN.out
          injection this with a b
          subst a; subst b
          exact ⟨rfl, hb2'⟩
      · have hk' : k = l.length := by omega
        have HIN : Hid ((0, 0) = (n, e)) := by
          show _ = _
          rw [← hin.out, List.drop_eq_nil_of_le (by omega)]; rfl
        subst hk'
        clear hin hlt hk hpv
        go_wp2_with fail
        go_ret2
        have := HIN.out
        injection this with a b
        subst a; subst b
        exact ⟨rfl, hbel⟩

end Go.Proofs.Ythifddkmbjnncaa

/-
  The walk of scribe.Print.
-/
namespace Go.Proofs.Ythifddkmbjnncaa
open Go.RowKit

theorem printL_ok {l : List ItemD} {o : List UInt8} {e : Int} (h : printL l = (o, e)) : ((checkL l).2 = 0 → o = nodeAt (normalL l) 0 ∧ e = 0) ∧ ((checkL l).2 ≠ 0 → o = [] ∧ e = (checkL l).2) := by
  unfold printL at h
  constructor
  · intro h0; rw [if_pos h0] at h; injection h with h1 h2; exact ⟨h1.symm, h2.symm⟩
  · intro h0; rw [if_neg h0] at h; injection h with h1 h2; exact ⟨h1.symm, h2.symm⟩

set_option maxRecDepth 100000 in
set_option maxHeartbeats 4000000 in
theorem Print_any (l : List ItemD) (A : Option Addr) (c : Nat) (w : World) (hA : ItemsAt w w.heap.size A l) (hs : SmallDoc l) (o : List UInt8) (e : Int) (hV : Hid (printL l = (o, e))) :
    Calls Try.prog 33 #[.slice A l.length c] w (Ret w (.tuple #[.string ⟨o.toArray⟩, .int .i64 e])) := by
  have HA := Lib.hid hA
  have HS := Lib.hid hs
  obtain ⟨n, q, hq⟩ : ∃ n q, Hid (checkL l = (n, q)) := ⟨_, _, rfl⟩
  obtain ⟨v1, v2⟩ := printL_ok hV.out
  rw [hq.out] at v1 v2
  simp only at v1 v2
  clear hA hs hV
  obtain ⟨W1, hW1⟩ : ∃ W1, Hid (W1 = w.alloc (.cells #[.slice A l.length c] 45)) := ⟨_, rfl⟩
  have hbW : Below w.heap.size w W1 := by rw [hW1.out]; exact (Below.refl _ w).alloc (Nat.le_refl _) _
  have hzW : w.heap.size < W1.heap.size := by rw [hW1.out]; simp
  have hc1 : Hid (∀ w', Below W1.heap.size W1 w' → w'.cell? ⟨w.heap.size, 0, none⟩ = some (.slice A l.length c) ∧ w'.frozen? ⟨w.heap.size, 0, none⟩ = false) := fun w' hb => by
    constructor
    · rw [hb.cell (p := ⟨w.heap.size, 0, none⟩) hzW, hW1.out, World.cell?_alloc_at _ _ _ _ (by simp)]; rfl
    · rw [hb.frozen (p := ⟨w.heap.size, 0, none⟩) hzW, hW1.out]
      exact frozen_of_row _ _ 0 _ _ (heap_alloc_new w _)
  by_cases hq0 : q = 0
  · obtain ⟨ho, he⟩ := v1 hq0
    clear v1 v2
    have hdoc : Doc l := checkL_ok (by rw [hq.out]; exact hq0)
    have HDOC := Lib.hid hdoc
    obtain ⟨x, s, hsh⟩ := hdoc.normal
    have HSH := Lib.hid hsh
    have HO := Lib.hid ho
    subst hq0; subst he
    clear hdoc hsh ho
    go_enter Try.func33, Try.ntmps33
    go_wp2_with fail
    rw [← hW1.out]
    refine (Check_any l A c W1 ((HA.out.below hbW).more (Nat.le_of_lt hzW)) HS.out.1 n 0 hq).mono ?_; rintro e2 w2 ⟨rfl, hb2⟩
    have hz2 := hb2.size
    obtain ⟨hd1, hd2⟩ := hc1.out w2 hb2
    obtain ⟨N, hN⟩ : ∃ N, Hid (normalL l = N) := ⟨_, rfl⟩
    go_wp2_with fail
    refine (Normal_any l A c w2 ((HA.out.below (hbW.trans (hb2.mono (by omega)))).more (by omega)) HS.out N hN).mono ?_
    rintro e3 w3 ⟨⟨A', c', S, rfl, hown, hattr, hmap⟩, hb3⟩
    have hb3W : Below W1.heap.size W1 w3 := hb2.trans (hb3.mono hz2)
    have hz3 := hb3.size
    clear hd1 hd2
    obtain ⟨hd1, hd2⟩ := hc1.out w3 hb3W
    obtain ⟨W4, hW4⟩ : ∃ W4, Hid (W4 = w3.setCell ⟨w.heap.size, 0, none⟩ (.slice A' S.length c')) := ⟨_, rfl⟩
    have hz4 : W4.heap.size = w3.heap.size := by rw [hW4.out]; simp
    have hItems : ItemsAt W4 W4.heap.size A' N := by
      have hown4 : ItemsOwn W4 w2.heap.size A' c' S := by rw [hW4.out]; exact ownsRow_setCell_below hown (by show w.heap.size < _; omega) _
      have hattr4 : ∀ s ∈ S, AttrsOwn W4 w2.heap.size s.2.1 s.2.2 s.1.attrs := fun s hs => by rw [hW4.out]; exact ownsRow_setCell_below (hattr s hs) (by show w.heap.size < _; omega) _
      have := ItemsOwn.at hown4 (fun s hs => ⟨(hattr4 s hs).at, (hattr4 s hs).cap⟩)
      rw [hmap] at this; exact this
    have hNx : N = x :: s := by rw [← hN.out]; exact HSH.out.eq
    have hSl : S.length = N.length := by rw [← hmap, List.length_map]
    obtain ⟨ad, rfl⟩ : ∃ ad, A' = some ad := by
      obtain ⟨ad, h, _⟩ := hItems (by rw [hNx]; simp)
      exact ⟨ad, h⟩
    rw [hSl] at hW4 ⊢
    have HIT := Lib.hid hItems
    have hxN : Hid (N[0]? = some x) := by show _ = _; rw [hNx]; rfl
    have hNS : Hid (SmallItems N) := by show SmallItems N; rw [← hN.out]; exact normal_small HS.out
    have hOl : Hid (nodeAt N 0 = o ∧ o.length ≤ 250000000) := by
      have := HDOC.out.small
      rw [hN.out] at this
      refine ⟨?_, ?_⟩
      · rw [HO.out, hN.out]
      · rw [HO.out, hN.out]; exact this
    have hlv : Hid (W4.cell? ⟨w.heap.size, 0, none⟩ = some (.slice (some ad) N.length c')) := by
      show _ = _
      rw [hW4.out]
      exact World.cell?_setCell_same _ _ _ hd1
    have hb4 : Below w.heap.size w W4 := by rw [hW4.out]; exact (hbW.trans (hb3W.mono (Nat.le_of_lt hzW))).setCell (Nat.le_refl _) _
    clear hown hattr hmap hItems hNx hSl
    have HZ4 := Lib.hid hz4
    clear hz4
    go_wp2_with fail
    rw [← hW4.out, ← HZ4.out]
    obtain ⟨b, hbE⟩ : ∃ b, Hid (b = W4.heap.size) := ⟨_, rfl⟩
    rw [← hbE.out]
    have hbld := Lib.IsBuilderF.of (builder_new 80 5 W4)
    rw [← hbE.out] at hbld
    have hbg : b ≤ W4.heap.size := by rw [hbE.out]; exact Nat.le_refl _
    obtain ⟨W5, hW5⟩ : ∃ W5, Hid (W5 = ((W4.alloc (.cells #[.pointer none, .slice none 0 0] 80)).alloc (.cells #[.func (.func 53) #[.pointer (some ⟨b, 0, none⟩)] #[]] 81)).alloc
        (.cells #[.func (.func 54) #[] #[.pointer (some ⟨w.heap.size, 0, none⟩), .pointer (some ⟨b + 1, 0, none⟩), .pointer (some ⟨b + 2, 0, none⟩)]] 82)) := ⟨_, rfl⟩
    have hb5 : Below W4.heap.size W4 W5 := by rw [hW5.out]; exact (((Below.refl _ W4).alloc (Nat.le_refl _) _).alloc (by simp) _).alloc (by simp; omega) _
    have hbW5 : b ≤ W5.heap.size := by have := hb5.size; omega
    have henv : PEnv N ad c' w.heap.size b W5 := by
      refine ⟨?_, ?_, ?_, ?_, ?_⟩
      · rw [hb5.cell (p := ⟨w.heap.size, 0, none⟩) (by show w.heap.size < _; have := hb4.size; have := HZ4.out; omega)]
        exact hlv.out
      · have := HZ4.out; have := hbE.out; omega
      · rw [hbE.out]; exact HIT.out.below hb5
      · rw [hW5.out, hbE.out, Lib.alloc_old _ _ _ (by simp)]
        have := heap_alloc_new (W4.alloc (.cells #[.pointer none, .slice none 0 0] 80)) (.cells #[.func (.func 53) #[.pointer (some ⟨W4.heap.size, 0, none⟩)] #[]] 81)
        rw [World.size_alloc] at this
        exact this
      · rw [hW5.out, hbE.out]
        have := heap_alloc_new ((W4.alloc (.cells #[.pointer none, .slice none 0 0] 80)).alloc (.cells #[.func (.func 53) #[.pointer (some ⟨W4.heap.size, 0, none⟩)] #[]] 81)) (.cells #[.func (.func 54) #[] #[.pointer (some ⟨w.heap.size, 0, none⟩), .pointer (some ⟨W4.heap.size + 1, 0, none⟩), .pointer (some ⟨W4.heap.size + 2, 0, none⟩)]] 82)
        rw [World.size_alloc, World.size_alloc] at this
        exact this
    have hbl5 : Bld b [] W5 := by
      have h1 : Bld b [] (W4.alloc (.cells #[.pointer none, .slice none 0 0] 80)) := hbld
      rw [hW5.out]
      exact builderF_below h1 (((Below.refl _ _).alloc (Nat.le_refl _) _).alloc (by simp) _)
    have hput := put_any N ad c' w.heap.size b hNS.out N.length 0 x [] W5 (by omega) hxN.out henv hbl5 (by rw [hOl.out.1]; have := hOl.out.2; simp; omega)
    rw [hOl.out.1] at hput
    have HPUT := Lib.hid hput
    have HENV := Lib.hid henv
    clear hput henv hbl5 hbld
    have hlb : w.heap.size ≤ b := by have := hb4.size; have := hbE.out; omega
    refine Calls.mono (by rw [← hW5.out]; exact HPUT.out) ?_
    rintro e6 w6 ⟨rfl, hb6, hp6⟩
    have hbz6 : b ≤ w6.heap.size := by have := hp6.size; omega
    go_wp2_with fail
    refine (StringK b b ([] ++ o) w6 hb6 hbz6).mono ?_
    rintro e7 w7 ⟨rfl, _, hb7, _⟩
    go_wp2_with fail
    go_ret2
    exact ⟨rfl, hb4.trans ((hb5.mono (by omega)).trans ((hp6.1.mono hlb).trans (hb7.mono hlb)))⟩
  · obtain ⟨ho, he⟩ := v2 hq0
    have tq : (q != 0) = true := by simp [hq0]
    clear v1 v2 hq0
    subst ho; subst he
    go_enter Try.func33, Try.ntmps33
    go_wp2_with fail
    rw [← hW1.out]
    refine (Check_any l A c W1 ((HA.out.below hbW).more (Nat.le_of_lt hzW)) HS.out.1 n e hq).mono ?_; rintro e2 w2 ⟨rfl, hb2⟩
    go_wp2_with fail
    go_ret2
    exact ⟨rfl, hbW.trans (hb2.mono (Nat.le_of_lt hzW))⟩
end Go.Proofs.Ythifddkmbjnncaa

/-
  The walk of law05.alive.
-/
namespace Go.Proofs.Ythifddkmbjnncaa
open Go.RowKit

def aliveDoc : List ItemD := [⟨0, 1, [97], [], []⟩, ⟨1, 2, [], [60], []⟩, ⟨1, 1, [98], [], []⟩]
def aliveText : List UInt8 := [60, 97, 62, 38, 108, 116, 59, 60, 98, 47, 62, 60, 47, 97, 62]

theorem alive_print : printL aliveDoc = (aliveText, 0) := by
  have hc : (checkL aliveDoc).2 = 0 := by decide +kernel
  have hn : normalL aliveDoc = aliveDoc := by decide +kernel
  have h1 : escT [60] = [38, 108, 116, 59] := by decide +kernel
  unfold printL
  rw [if_pos hc, hn]
  have e2 : pr [⟨1, 1, [98], [], []⟩] = [60, 98, 47, 62] := by
    rw [pr_cons]
    show nodeL _ [] (pr []) ++ pr [] = _
    rw [pr_nil]
    rfl
  have e1 : pr [⟨1, 2, [], [60], []⟩, ⟨1, 1, [98], [], []⟩] = [38, 108, 116, 59, 60, 98, 47, 62] := by
    rw [pr_cons]
    show nodeL _ [] (pr []) ++ pr [⟨1, 1, [98], [], []⟩] = _
    rw [pr_nil, e2]
    show escT [60] ++ _ = _
    rw [h1]; rfl
  show (nodeL ⟨0, 1, [97], [], []⟩ [⟨1, 2, [], [60], []⟩, ⟨1, 1, [98], [], []⟩] (pr [⟨1, 2, [], [60], []⟩, ⟨1, 1, [98], [], []⟩]), (0 : Int)) = _
  rw [e1]
  rfl

theorem aliveDoc_small : SmallDoc aliveDoc := by
  refine ⟨small_of_mem (by decide) (fun x hx => ?_), by decide⟩
  simp [aliveDoc] at hx
  rcases hx with rfl | rfl | rfl <;> exact ⟨by decide, by decide, by decide, by simp, by decide⟩

set_option maxRecDepth 100000 in
set_option maxHeartbeats 2000000 in
theorem alive5_any (w : World) : Calls Try.prog 34 #[] w (Ret w (.bool true)) := by
  have HP : Hid (printL aliveDoc = (aliveText, 0)) := alive_print
  go_enter Try.func34, Try.ntmps34
  have hit : Hid (∀ w' : World, w' = w.alloc (.cells ((aliveDoc.map fun x => ((x, none, 0) : Slot)).flatMap cellsI).toArray 50) → ItemsAt w' w'.heap.size (some ⟨w.heap.size, 0, none⟩) aliveDoc) := fun w' hw => by
    subst hw
    have ho : ItemsOwn (w.alloc (.cells ((aliveDoc.map fun x => ((x, none, 0) : Slot)).flatMap cellsI).toArray 50)) w.heap.size (some ⟨w.heap.size, 0, none⟩) 3 (aliveDoc.map fun x => ((x, none, 0) : Slot)) :=
      World.ownsRow_lit w _ 3 (Nat.le_refl _) (by decide) rfl
    have := ItemsOwn.at ho (fun s hs => by
      obtain ⟨x, hx, rfl⟩ := List.mem_map.1 hs
      simp [aliveDoc] at hx
      rcases hx with rfl | rfl | rfl <;> exact ⟨fun h => absurd h (by simp), Nat.le_refl _⟩)
    rw [List.map_map] at this
    have e : aliveDoc.map ((fun s : Slot => s.1) ∘ fun x => ((x, none, 0) : Slot)) = aliveDoc := rfl
    rw [e] at this
    exact this
  go_wp2_with fail
  refine (Print_any aliveDoc (some ⟨w.heap.size, 0, none⟩) 3 _ (hit.out _ rfl) aliveDoc_small aliveText 0 HP).mono ?_
  rintro e w2 ⟨rfl, hb2⟩
  unfold aliveText
  go_wp2_with fail
  go_ret
  exact ⟨rfl, ((Below.refl _ w).alloc (Nat.le_refl _) _).trans (hb2.mono (by simp))⟩
end Go.Proofs.Ythifddkmbjnncaa

/-
  What was made normal, and what stays as it was, as items.
-/
namespace Go.Proofs.Ythifddkmbjnncaa
open Go.RowKit

theorem NormPost.items {w w' : World} {N : List ItemD} {e : Ending} (h : NormPost w N e w') : ∃ A c, e = .returned (.slice A N.length c) ∧ ItemsAt w' w'.heap.size A N ∧ Below w.heap.size w w' := by
  obtain ⟨⟨A, c, S, he, ho, ha, hm⟩, hb⟩ := h
  refine ⟨A, c, ?_, ?_, hb⟩
  · rw [he, ← hm, List.length_map]
  · have := ItemsOwn.at ho (fun s hs => ⟨(ha s hs).at, (ha s hs).cap⟩)
    rw [hm] at this; exact this
theorem ItemsAt.later {w w' : World} {A : Option Addr} {l : List ItemD} (h : ItemsAt w w.heap.size A l) (hb : Below w.heap.size w w') : ItemsAt w' w'.heap.size A l := (h.below hb).more hb.size
end Go.Proofs.Ythifddkmbjnncaa
