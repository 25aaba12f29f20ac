/-
  Texts of this claim, joined (by a program of the claim's author): Toks, TokSame, AllLaw3.
-/
import Derived.Test.YthifddkmbjnncaaK11
import Derived.Test.YthifddkmbjnncaaK1
/-
  A row of tokens in memory, and what stands in it side by side.
-/
namespace Go.Proofs.Ythifddkmbjnncaa
open Go.RowKit

/-- a token's five cells, where a loop looks for them -/
def TokAt (w : World) (ad : Addr) (k : Nat) (x : TSlot) : Prop :=
  w.cell? (ad.add (k * 5)) = some (.int .i64 x.1.2.kind) ∧ w.cell? ⟨(ad.add (k * 5)).block, (ad.add (k * 5)).off + 1, none⟩ = some (.int .i64 x.1.1) ∧ w.cell? ⟨(ad.add (k * 5)).block, (ad.add (k * 5)).off + 2, none⟩ = some (.string ⟨x.1.2.name.toArray⟩) ∧
    w.cell? ⟨(ad.add (k * 5)).block, (ad.add (k * 5)).off + 3, none⟩ = some (.string ⟨x.1.2.text.toArray⟩) ∧ w.cell? ⟨(ad.add (k * 5)).block, (ad.add (k * 5)).off + 4, none⟩ = some (.slice x.2.1 x.1.2.attrs.length x.2.2)
theorem TokAt.below {w w' : World} {ad : Addr} {k : Nat} {x : TSlot} (h : TokAt w ad k x) (hb : Below w.heap.size w w') (had : ad.block < w.heap.size) : TokAt w' ad k x := by
  have hk' : ∀ n, w'.cell? ⟨(ad.add (k * 5)).block, (ad.add (k * 5)).off + n, none⟩ = w.cell? ⟨(ad.add (k * 5)).block, (ad.add (k * 5)).off + n, none⟩ := fun n => hb.cell (by show (ad.add _).block < _; rw [block_of_add]; exact had)
  obtain ⟨h0, h1, h2, h3, h4⟩ := h
  exact ⟨(hb.cell (by rw [block_of_add]; exact had)).trans h0, (hk' _).trans h1, (hk' _).trans h2, (hk' _).trans h3, (hk' _).trans h4⟩
theorem TokensOwn.at {w : World} {B : Nat} {A : Option Addr} {c : Nat} {S : List TSlot} (h : TokensOwn w B A c S) (hl : 0 < S.length) :
    ∃ ad, A = some ad ∧ ad.block < w.heap.size ∧ ∀ k x, S[k]? = some x → TokAt w ad k x := by
  obtain ⟨g, rfl, hB, hg, hc⟩ := h.cells hl
  refine ⟨⟨g, 0, none⟩, rfl, hg, fun k x hx => ?_⟩
  unfold TokAt
  rw [add_zero_block]
  exact ⟨hc k x 0 _ hx rfl, hc k x 1 _ hx rfl, hc k x 2 _ hx rfl, hc k x 3 _ hx rfl, hc k x 4 _ hx rfl⟩

/-- tokens side by side: each where the one ahead ends -/
def RowOf : Nat → List UInt8 → List (Nat × TokD) → Prop
  | _, l, [] => l = []
  | p, l, (q, t) :: r => q = p ∧ l ≠ [] ∧ ∃ n, oneT l = .ok t n ∧ RowOf (p + n) (l.drop n) r
theorem allF_row : ∀ (f : Nat) (p : Nat) (l : List UInt8), l.length < f → (allF f p l).2.2 = 0 → RowOf p l (allF f p l).1
  | 0, _, _, h, _ => by omega
  | f + 1, p, l, hf, h => by
    rw [allF] at h ⊢
    split
    · rename_i hl; exact hl
    · rename_i hl
      rw [if_neg hl] at h
      have hw := oneT_within l hl
      cases ho : oneT l with
      | bad k e => rw [ho] at h hw; exact absurd h hw.2
      | ok t n =>
        rw [ho] at h hw
        simp only at h ⊢
        split
        · rename_i hq
          obtain ⟨h1, h2⟩ := hw
          exact ⟨rfl, hl, n, ho, allF_row f (p + n) (l.drop n) (by rw [List.length_drop]; omega) hq⟩
        · rename_i hq
          rw [if_neg hq] at h
          exact absurd h hq
theorem rowOf_len : ∀ (T : List (Nat × TokD)) (p : Nat) (l : List UInt8), RowOf p l T → T.length ≤ l.length
  | [], _, _, _ => Nat.zero_le _
  | (q, t) :: r, p, l, h => by
    obtain ⟨rfl, hl, n, ho, hr⟩ := h
    have hw := oneT_within l hl
    rw [ho] at hw
    obtain ⟨h1, h2⟩ := hw
    have := rowOf_len r _ _ hr
    rw [List.length_drop] at this
    simp only [List.length_cons]
    omega
theorem all_row {p : Nat} {l : List UInt8} (h : (allL p l).2.2 = 0) : RowOf p l (allL p l).1 := allF_row _ p l (Nat.lt_succ_self _) h
end Go.Proofs.Ythifddkmbjnncaa

/-
  ref03.Same at two tokens that are the same.
-/
namespace Go.Proofs.Ythifddkmbjnncaa
open Go.RowKit

set_option maxRecDepth 100000 in
set_option maxHeartbeats 1000000 in
theorem TokSame_eq (t : TokD) (at_ : Int) (A B : Option Addr) (c d : Nat) (w : World) (hA : AttrsAt w w.heap.size A t.attrs) (hB : AttrsAt w w.heap.size B t.attrs) (hl : t.attrs.length ≤ 1000000000) :
    Calls Try.prog 19 #[.agg #[.int .i64 t.kind, .int .i64 at_, .string ⟨t.name.toArray⟩, .string ⟨t.text.toArray⟩, .slice A t.attrs.length c], .agg #[.int .i64 t.kind, .int .i64 at_, .string ⟨t.name.toArray⟩, .string ⟨t.text.toArray⟩, .slice B t.attrs.length d]] w (Ret w (.bool true)) := by
  have HA := Lib.hid hA
  have HB := Lib.hid hB
  clear hA hB
  go_enter Try.func19, Try.ntmps19
  go_wp2_with fail
  obtain ⟨W1, hW1⟩ : ∃ W1, Hid (W1 = (w.alloc (.cells #[.int .i64 t.kind, .int .i64 at_, .string ⟨t.name.toArray⟩, .string ⟨t.text.toArray⟩, .slice A t.attrs.length c] 33)).alloc (.cells #[.int .i64 t.kind, .int .i64 at_, .string ⟨t.name.toArray⟩, .string ⟨t.text.toArray⟩, .slice B t.attrs.length d] 33)) := ⟨_, rfl⟩
  rw [← hW1.out]
  have hbW : Below w.heap.size w W1 := by rw [hW1.out]; exact ((Below.refl _ w).alloc (Nat.le_refl _) _).alloc (by simp) _
  refine (SameAttrs_any t.attrs t.attrs A B c d W1 ((HA.out.below hbW).more hbW.size) ((HB.out.below hbW).more hbW.size) hl hl true (decide_eq_true rfl)).mono ?_
  rintro e w2 ⟨rfl, hb2⟩
  go_wp2_with fail
  go_ret
  exact ⟨rfl, hbW.trans (hb2.mono hbW.size)⟩
end Go.Proofs.Ythifddkmbjnncaa

/-
  The law LexisAll walked.
-/
namespace Go.Proofs.Ythifddkmbjnncaa
open Go.RowKit

theorem RTokensOwn.at {w : World} {B : Nat} {A : Option Addr} {c : Nat} {S : List TSlot} (h : RTokensOwn w B A c S) (hl : 0 < S.length) :
    ∃ ad, A = some ad ∧ ad.block < w.heap.size ∧ ∀ k x, S[k]? = some x → TokAt w ad k x := by
  obtain ⟨g, rfl, hB, hg, _, hc0⟩ := own_flat cellsT cellsT_length h hl
  have hc : ∀ k x j u, S[k]? = some x → (cellsT x)[j]? = some u → w.cell? ⟨g, k * 5 + j, none⟩ = some u := fun k x j u hx hu => by
    have := hc0 k x j u hx hu
    rwa [add_zero_block] at this
  refine ⟨⟨g, 0, none⟩, rfl, hg, fun k x hx => ?_⟩
  unfold TokAt
  rw [add_zero_block]
  exact ⟨hc k x 0 _ hx rfl, hc k x 1 _ hx rfl, hc k x 2 _ hx rfl, hc k x 3 _ hx rfl, hc k x 4 _ hx rfl⟩

theorem row_many : ∀ (T : List (Nat × TokD)) (p : Nat) (l : List UInt8), RowOf p l T → ∀ x ∈ T, x.2.attrs.length ≤ 20
  | [], _, _, _, x, h => by cases h
  | (q, t) :: r, p, l, h, x, hx => by
    obtain ⟨rfl, hl, n, ho, hr⟩ := h
    rcases List.mem_cons.1 hx with rfl | hx
    · exact (tok_parts ho).2.2.2.1
    · exact row_many r _ _ hr x hx

set_option maxRecDepth 100000 in
set_option maxHeartbeats 4000000 in
theorem walk_LexisAll (s : ByteArray) (w : World) (_hm : s.size ≤ maxLen) : Calls Try.prog 3 #[.string s] w (Ret w (.bool true)) := by
  by_cases hs0 : 20000 < s.size
  · have h1 : (20000 : Int) < s.size := by omega
    clear _hm
    go_enter Try.func3, Try.ntmps3
    go_wp2_with fail
    refine (alive3_any _).mono ?_
    rintro e9 w9 ⟨rfl, hb9⟩
    go_wp2_with fail
    go_ret
    exact ⟨rfl, hb9⟩
  have h1 : (s.size : Int) ≤ 20000 := by omega
  have hss : s.size ≤ 1000000000 := by omega
  have HS0 := Lib.hid hs0
  clear _hm hs0
  obtain ⟨R, hR⟩ : ∃ R, Hid (allL 0 s.data.toList = R) := ⟨_, rfl⟩
  go_enter Try.func3, Try.ntmps3
  go_wp2_with fail
  refine (All_any s w hss R hR).mono ?_
  rintro e w1 ⟨hb1, hpost⟩
  rcases hpost with ⟨hR0, A, c, S, rfl, hown, hat, hS⟩ | ⟨hR0, rfl⟩
  · have hrow0 : RowOf 0 s.data.toList (S.map (·.1)) := by
      rw [hS, ← hR.out]
      exact all_row (by rw [hR.out]; exact hR0)
    have HSZ : S.length ≤ 1000000000 := by
      have := rowOf_len _ _ _ hrow0
      rw [size_toList, List.length_map] at this
      omega
    have HFI : Hid (∀ x ∈ S, x.1.2.attrs.length ≤ 20) := fun x hx => row_many _ _ _ hrow0 x.1 (List.mem_map.2 ⟨x, hx, rfl⟩)
    have HOWN := Lib.hid hown
    have HAT : Hid (TAttrs w1 w.heap.size S) := hat
    have HSM := Lib.hid hS
    have HR0 := Lib.hid hR0
    clear hown hat hS hR0 hrow0
    go_wp2_with fail
    refine (RLAll_any s w1 hss R hR).mono ?_
    rintro e2 w2 ⟨hb2, hpost2⟩
    rcases hpost2 with ⟨_, B, d, T, hee, hownT, hatT, hT⟩ | ⟨hR1, _⟩
    · have hlen : T.length = S.length := by
        have := congrArg List.length (hT.trans HSM.out.symm)
        rwa [List.length_map, List.length_map] at this
      rw [hlen] at hee
      subst hee
      have HST : Hid (T.map (·.1) = S.map (·.1)) := hT.trans HSM.out.symm
      have HOWT := Lib.hid hownT
      have HATT : Hid (TAttrs w2 w1.heap.size T) := hatT
      have HLEN := Lib.hid hlen
      clear hownT hatT hT hlen
      go_wp2_with fail
      go_loopw [43] (fun i wr => ∃ (k : Nat), k ≤ S.length ∧ i = .int .i64 (k : Int) ∧ Hid (Below w2.heap.size w2 wr)) (fun i _ => S.length - (intOf i).toNat)
      case atStart => exact ⟨0, Nat.zero_le _, rfl, (Below.refl _ _ : Below w2.heap.size w2 w2)⟩
      case round =>
        obtain ⟨k, hk, rfl, hbel⟩ := hrel
        rename World => wo
        by_cases hlt : k < S.length
        · obtain ⟨ad, rfl, had, hc⟩ := HOWN.out.at (by omega)
          obtain ⟨bd, rfl, hbd, hc2⟩ := HOWT.out.at (by have := HLEN.out; omega)
          obtain ⟨⟨⟨q, t⟩, A1, c1⟩, hx⟩ : ∃ x, S[k]? = some x := ⟨S[k], List.getElem?_eq_getElem _⟩
          obtain ⟨⟨⟨q', t'⟩, A2, c2⟩, hy⟩ : ∃ x, T[k]? = some x := ⟨T[k]'(by have := HLEN.out; omega), List.getElem?_eq_getElem _⟩
          have heq : (q', t') = (q, t) := by
            have h := congrArg (fun l => l[k]?) HST.out
            simp only [List.getElem?_map, hx, hy, Option.map] at h
            exact Option.some.inj h
          obtain ⟨rfl, rfl⟩ := Prod.mk.inj heq
          clear heq
          have hF : t'.attrs.length ≤ 20 := HFI.out _ (List.mem_of_getElem? hx)
          have hbo : Below w1.heap.size w1 wo := hb2.trans (hbel.out.mono hb2.size)
          have hAT : Hid (AttrsAt wo.drew wo.heap.size A1 t'.attrs) := ((AttrsOwn.at (HAT.out _ (List.mem_of_getElem? hx))).below hbo.drew).more hbo.size
          have hBT : Hid (AttrsAt wo.drew wo.heap.size A2 t'.attrs) := ((AttrsOwn.at (HATT.out _ (List.mem_of_getElem? hy))).below hbel.out.drew).more hbel.out.size
          have htl : t'.attrs.length ≤ 1000000000 := by omega
          have htk := (hc k _ hx).below hbo had
          have htk2 := (hc2 k _ hy).below hbel.out hbd
          have hadw : (ad.add (k * 5)).block < wo.heap.size := by rw [block_of_add]; have := hbo.size; omega
          have hbdw : (bd.add (k * 5)).block < wo.heap.size := by rw [block_of_add]; have := hbel.out.size; omega
          have HS : Hid (∀ w', Below wo.heap.size wo w' → TokAt w' ad k ((q', t'), A1, c1) ∧ TokAt w' bd k ((q', t'), A2, c2)) := fun w' hb' => by
            have kA : ∀ n, w'.cell? ⟨(ad.add (k * 5)).block, (ad.add (k * 5)).off + n, none⟩ = wo.cell? ⟨(ad.add (k * 5)).block, (ad.add (k * 5)).off + n, none⟩ := fun n => hb'.cell hadw
            have kB : ∀ n, w'.cell? ⟨(bd.add (k * 5)).block, (bd.add (k * 5)).off + n, none⟩ = wo.cell? ⟨(bd.add (k * 5)).block, (bd.add (k * 5)).off + n, none⟩ := fun n => hb'.cell hbdw
            obtain ⟨a0, a1, a2, a3, a4⟩ := htk
            obtain ⟨b0, b1, b2, b3, b4⟩ := htk2
            exact ⟨⟨(hb'.cell hadw).trans a0, (kA _).trans a1, (kA _).trans a2, (kA _).trans a3, (kA _).trans a4⟩, ⟨(hb'.cell hbdw).trans b0, (kB _).trans b1, (kB _).trans b2, (kB _).trans b3, (kB _).trans b4⟩⟩
          have k0 : (0 : Int) ≤ (k : Int) := by omega
          have k1 : (k : Int) < S.length := by omega
          clear hx hy hc hc2 htk htk2 hF hbo hadw hbdw
          unfold TokAt at HS
          simp only at HS
          go_wp2_with fail
          refine wp_region_held_drew (S := fun w' => (w'.cell? (ad.add (k * 5)) = some (.int .i64 t'.kind) ∧ w'.cell? ⟨(ad.add (k * 5)).block, (ad.add (k * 5)).off + 1, none⟩ = some (.int .i64 q') ∧ w'.cell? ⟨(ad.add (k * 5)).block, (ad.add (k * 5)).off + 2, none⟩ = some (.string ⟨t'.name.toArray⟩) ∧ w'.cell? ⟨(ad.add (k * 5)).block, (ad.add (k * 5)).off + 3, none⟩ = some (.string ⟨t'.text.toArray⟩) ∧ w'.cell? ⟨(ad.add (k * 5)).block, (ad.add (k * 5)).off + 4, none⟩ = some (.slice A1 t'.attrs.length c1)) ∧ (w'.cell? (bd.add (k * 5)) = some (.int .i64 t'.kind) ∧ w'.cell? ⟨(bd.add (k * 5)).block, (bd.add (k * 5)).off + 1, none⟩ = some (.int .i64 q') ∧ w'.cell? ⟨(bd.add (k * 5)).block, (bd.add (k * 5)).off + 2, none⟩ = some (.string ⟨t'.name.toArray⟩) ∧ w'.cell? ⟨(bd.add (k * 5)).block, (bd.add (k * 5)).off + 3, none⟩ = some (.string ⟨t'.text.toArray⟩) ∧ w'.cell? ⟨(bd.add (k * 5)).block, (bd.add (k * 5)).off + 4, none⟩ = some (.slice A2 t'.attrs.length c2))) (by kernel_rfl) (HS.out _ (Below.refl _ wo).drew) (fun hHeld => ?_)
          refine tk (oi := ⟨_, _, _, _, _, _⟩) (v := ?_) 0 rfl (by kernel_rfl) (fun _ _ _ h => h) (.inl ⟨by rfl, ?_⟩) (by assumption) ?_; rotate_left
          · (intro wS hSw; (try dsimp only at hSw); go_simp); all_goals with_reducible rfl
          try go_frame
          refine tk (oi := ⟨_, _, _, _, _, _⟩) (v := ?_) 1 rfl (by kernel_rfl) (fun _ _ _ h => h) (.inl ⟨by rfl, ?_⟩) (by assumption) ?_; rotate_left
          · (intro wS hSw; (try dsimp only at hSw); go_simp); all_goals with_reducible rfl
          try go_frame
          refine tk (oi := ⟨_, _, _, _, _, _⟩) (v := ?_) 2 rfl (by kernel_rfl) (fun _ _ _ h => h) (.inl ⟨by rfl, ?_⟩) (by assumption) ?_; rotate_left
          · (intro wS hSw; (try dsimp only at hSw); go_simp); all_goals with_reducible rfl
          try go_frame
          refine tk (oi := ⟨_, _, _, _, _, _⟩) (v := ?_) 3 rfl (by kernel_rfl) (fun _ _ _ h => h) (.inl ⟨by rfl, ?_⟩) (by assumption) ?_; rotate_left
          · (intro wS hSw; (try dsimp only at hSw); go_simp); all_goals with_reducible rfl
          try go_frame
          refine tk (oi := ⟨_, _, _, _, _, _⟩) (v := ?_) 4 rfl (by kernel_rfl) (fun _ _ _ h => h) (.inl ⟨by rfl, ?_⟩) (by assumption) ?_; rotate_left
          · (intro wS hSw; (try dsimp only at hSw); go_simp); all_goals with_reducible rfl
          try go_frame
          refine tk (oi := ⟨_, _, _, _, _, _⟩) (v := ?_) 5 rfl (by kernel_rfl) (fun _ _ _ h => h) (.inl ⟨by rfl, ?_⟩) (by assumption) ?_; rotate_left
          · (intro wS hSw; (try dsimp only at hSw); go_simp); all_goals with_reducible rfl
          try go_frame
          refine tk (oi := ⟨_, _, _, _, _, _⟩) (v := ?_) 6 rfl (by kernel_rfl) (fun _ _ _ h => h) (.inl ⟨by rfl, ?_⟩) (by assumption) ?_; rotate_left
          · (intro wS hSw; (try dsimp only at hSw); go_simp); all_goals with_reducible rfl
          try go_frame
          refine tk (oi := ⟨_, _, _, _, _, _⟩) (v := ?_) 7 rfl (by kernel_rfl) (fun _ _ _ h => h) (.inl ⟨by rfl, ?_⟩) (by assumption) ?_; rotate_left
          · (intro wS hSw; (try dsimp only at hSw); go_simp); all_goals with_reducible rfl
          try go_frame
          refine wpAnyH_ready (rs := [8]) (by kernel_rfl) (by simp) ?_
          refine AllReadyH.cons (o := ⟨_, _, _, _, _, _⟩) rfl (fun K hK => ?_) AllReadyH.nil
          go_simp
          refine (TokSame_eq t' q' A1 A2 c1 c2 wo.drew hAT.out hBT.out htl).mono ?_
          rintro e6 w6 ⟨rfl, hb6⟩
          have hb6' : Below wo.heap.size wo w6 := ((Below.refl _ wo).drew).trans hb6
          go_wp2_with fail
          refine hK.out _ _ (HS.out _ hb6') (fun hHeld => ?_)
          clear hK K
          try go_frame
          refine tk (oi := ⟨_, _, _, _, _, _⟩) (v := ?_) 9 rfl (by kernel_rfl) (fun _ _ _ h => h) (.inl ⟨by rfl, ?_⟩) (by assumption) ?_; rotate_left
          · (intro wS hSw; (try dsimp only at hSw); go_simp); all_goals with_reducible rfl
          try go_frame
          refine wpAnyH_done (by kernel_rfl) ?_ _
          clear hHeld
          go_wp2_with fail
          go_roundw
          case rel => exact ⟨k + 1, by omega, by go_num, hbel.out.trans (hb6'.mono hbel.out.size)⟩
          case measure => simp [intOf]; omega
        · go_wp2_with fail
          refine (alive3_any wo).mono ?_
          rintro e w4 ⟨rfl, hb4⟩
          go_wp2_with fail
          go_ret
          exact ⟨rfl, hb1.trans ((hb2.trans ((hbel.out.trans (hb4.mono hbel.out.size)).mono hb2.size)).mono hb1.size)⟩
    · exact absurd HR0.out hR1
  · obtain ⟨ra, re, hra⟩ : ∃ (ra : Nat) (re : Int), Hid (R.2.1 = ra ∧ R.2.2 = re) := ⟨_, _, rfl, rfl⟩
    have HR0 := Lib.hid hR0
    rw [hra.out.1, hra.out.2]
    clear hR0
    go_wp2_with fail
    refine (RLAll_any s w1 hss R hR).mono ?_
    rintro e2 w2 ⟨hb2, hpost2⟩
    rcases hpost2 with ⟨hR1, _⟩ | ⟨_, hee⟩
    · exact absurd hR1 HR0.out
    · rw [hra.out.1, hra.out.2] at hee
      subst hee
      go_wp2_with fail
      go_loopw [43] (fun i wr => i = .int .i64 0 ∧ Hid (Below w2.heap.size w2 wr)) (fun _ _ => 0)
      case atStart => exact ⟨rfl, (Below.refl _ _ : Below w2.heap.size w2 w2)⟩
      case round =>
        obtain ⟨rfl, hbel⟩ := hrel
        rename World => wo
        go_wp2_with fail
        refine (alive3_any wo).mono ?_
        rintro e w4 ⟨rfl, hb4⟩
        go_wp2_with fail
        go_ret
        exact ⟨rfl, hb1.trans ((hb2.trans ((hbel.out.trans (hb4.mono hbel.out.size)).mono hb2.size)).mono hb1.size)⟩
end Go.Proofs.Ythifddkmbjnncaa
