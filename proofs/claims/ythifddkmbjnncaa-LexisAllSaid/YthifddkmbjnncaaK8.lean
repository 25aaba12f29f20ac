/-
  Texts of this claim, joined (by a program of the claim's author): RL2, RWith, SameA, Has, Parts.
-/
import Derived.Test.YthifddkmbjnncaaK5
import Derived.Test.YthifddkmbjnncaaK6
import Derived.Test.YthifddkmbjnncaaK7
import Derived.Test.YthifddkmbjnncaaK1
import Derived.Test.YthifddkmbjnncaaK2
import Derived.Deep.RegionHeld3
import Derived.Laws.StructEq
import Derived.Shelf.SlicesQ.IndexFunc
import Derived.Test.YthifddkmbjnncaaK3
/-
  The document's reader of tokens: the walks of text and end.
-/
namespace Go.Proofs.Ythifddkmbjnncaa
open Go.RowKit

/-- a state's cells -/
def stC (at_ kind tat : Int) (name text : List UInt8) (A : Option Addr) (n c : Nat) (bad e : Int) : Array Value := #[.int .i64 at_, .int .i64 kind, .int .i64 tat, .string ⟨name.toArray⟩, .string ⟨text.toArray⟩, .slice A n c, .int .i64 bad, .int .i64 e]
def zeroSt : Array Value := #[.int .i64 0, .int .i64 0, .int .i64 0, .string ⟨#[]⟩, .string ⟨#[]⟩, .slice none 0 0, .int .i64 0, .int .i64 0]
theorem stC_one (at_ kind tat : Int) (name text : List UInt8) (A : Option Addr) (n c : Nat) (bad e : Int) : (stC at_ kind tat name text A n c bad e).all (·.oneCell') = true := by simp [stC, Value.oneCell']

/-- what a reading leaves: q, where the told places are counted from; p, where the token begins -/
def StPost (w : World) (q p : Nat) (V : Told TokD) (e : Ending) (w' : World) : Prop :=
  Below w.heap.size w w' ∧ match V with
  | .ok t n => ∃ A c, e = .returned (.agg (stC (q + n : Nat) t.kind p t.name t.text A t.attrs.length c 0 0)) ∧ AttrsOwn w' w.heap.size A c t.attrs
  | .bad k c => e = .returned (.agg (stC 0 0 0 [] [] none 0 0 (q + k : Nat) c))

theorem RUndo_at (s : ByteArray) (v : Bool) (w : World) (hs : s.size ≤ 1000000000) (o : List UInt8) (k : Nat) (e : Int) (h : Hid (undoL v s.data.toList = (o, k, e))) :
    Calls Try.prog 94 #[.string s, .bool v] w (Ret w (.tuple #[.string ⟨o.toArray⟩, .int .i64 (k : Nat), .int .i64 e])) := by
  have := RUndo_any s v w hs
  rw [h.out] at this
  exact this
theorem blk_below {w w' : World} {g : Nat} {o : Obj} (h : Below w.heap.size w w') (ho : w.heap[g]? = some o) : w'.heap[g]? = some o := by rw [h.block g (Array.getElem?_eq_some_iff.1 ho).1]; exact ho
theorem below_stored {B g : Nat} {w0 w : World} (hb : Below B w0 w) (hBg : B ≤ g) (cs : Array Value) : Below B w0 (w.setRow g cs) :=
  ⟨hb.os, hb.tape, hb.output, by rw [setRow_size]; exact hb.size, fun k hk => (setRow_other _ _ _ _ (by omega)).trans (hb.block k hk)⟩



set_option maxRecDepth 100000 in
set_option maxHeartbeats 2000000 in
theorem rtext_any (s : ByteArray) (p : Nat) (w : World) (hp : p ≤ s.size) (hs : s.size ≤ 1000000000) (V : Told TokD) (hV : Hid (textT (s.data.toList.drop p) = V)) :
    Calls Try.prog 65 #[.string s, .int .i64 p] w (StPost w p p V) := by
  have HL := Lib.hid (size_toList s)
  obtain ⟨t, ht⟩ : ∃ t, Hid ((s.data.toList.drop p).takeWhile (· != 60) = t) := ⟨_, rfl⟩
  obtain ⟨k, hk⟩ : ∃ k, Hid (p + t.length = k) := ⟨_, rfl⟩
  have hkl : k ≤ s.size := by
    have := takeWhile_len (· != 60) (s.data.toList.drop p)
    rw [ht.out, List.length_drop, HL.out] at this
    have := hk.out
    omega
  have hx : (s.extract p k).data.toList = t := by
    rw [Lib.extract_data]
    have h2 := span_word (s.data.toList.drop p) (· != 60)
    rw [ht.out] at h2
    rw [show k - p = t.length by have := hk.out; omega]
    conv => lhs; rw [h2]
    rw [List.take_append_of_le_length (Nat.le_refl _), List.take_length]
  obtain ⟨u, m, e, hu⟩ : ∃ u m e, Hid (undoL false t = (u, m, e)) := ⟨_, _, _, rfl⟩
  have hU : Hid (undoL false (s.extract p k).data.toList = (u, m, e)) := by show _ = _; rw [hx]; exact hu.out
  have hxs : (s.extract p k).size ≤ 1000000000 := by rw [ByteArray.size_extract]; omega
  have HXS := Lib.hid hxs
  have hm1 : m ≤ t.length := by have := undoL_le false t; rw [hu.out] at this; exact this
  have i0 : (0 : Int) ≤ (p : Int) := by omega
  have i1 : (p : Int) ≤ k := by have := hk.out; omega
  have i2 : (k : Int) ≤ s.size := by omega
  have hmb : (p : Int) + m ≤ s.size := by have := hk.out; omega
  have hfind : Hid (p + ((s.data.toList.drop p).takeWhile (· != 60)).length = k) := by show _ = _; rw [ht.out]; exact hk.out
  have hVT := Lib.hid (textT_of ht.out hu.out)
  clear hx hxs hm1
  by_cases he : e = 0
  · subst he
    by_cases hl : 1500 < u.length
    · have hl' : (1500 : Int) < u.length := by omega
      have HV : Hid (V = .bad 0 34) := by show _ = _; rw [← hV.out, hVT.out, if_neg (by simp), if_pos hl]
      clear hl
      go_enter Try.func65, Try.ntmps65
      go_wp2_with fail
      obtain ⟨W1, hW1⟩ : ∃ W1, Hid (W1 = w.alloc (.cells zeroSt 94)) := ⟨_, rfl⟩
      change Calls _ _ _ (w.alloc (.cells zeroSt 94)) _
      rw [← hW1.out]
      have hb1 : Below w.heap.size w W1 := by rw [hW1.out]; exact (Below.refl _ w).alloc (Nat.le_refl _) _
      have HT1 : Hid (W1.heap[w.heap.size]? = some (.cells zeroSt 94 (0, 0))) := by show _ = _; rw [hW1.out]; exact heap_alloc_new w _
      refine (rfind_any s p 60 W1 hp hs k hfind).mono ?_
      rintro e w2 ⟨rfl, hb2⟩
      go_wp2_with fail
      refine (RUndo_at _ false w2 HXS.out u m 0 hU).mono ?_
      rintro e w3 ⟨rfl, hb3⟩
      go_wp2_with fail
      refine (rfails_any p 34 w3).mono ?_
      rintro e w4 ⟨rfl, hb4⟩
      have HT4 := Lib.hid (blk_below hb4 (blk_below hb3 (blk_below hb2 HT1.out)))
      go_wp2_with (refine wpList_store_row rfl 94 (.tmp 4) (.tmp 32) rfl w.heap.size (stC 0 0 0 [] [] none 0 0 p 34) rfl rfl 94 zeroSt HT4.out (by kernel_rfl) rfl (stC_one _ _ _ _ _ _ _ _ _ _) ?_)
      try simp only [Exit.inBlock, Exit.then]
      refine bodyPost_ret (results_cell_row Try.results65 _ _ w.heap.size 94 (stC 0 0 0 [] [] none 0 0 p 34) (0, 0) _ rfl (setRow_heap _ _ _ _ _ _ HT4.out) Try.underlying94 rfl (by kernel_rfl)) rfl ?_
      rw [HV.out]
      exact ⟨below_stored (hb1.trans ((hb2.trans ((hb3.trans (hb4.mono hb3.size)).mono hb2.size)).mono hb1.size)) (Nat.le_refl _) _, rfl⟩
    · have hl' : (u.length : Int) ≤ 1500 := by omega
      have HV : Hid (V = .ok ⟨4, [], u, []⟩ t.length) := by show _ = _; rw [← hV.out, hVT.out, if_neg (by simp), if_neg hl]
      clear hl
      go_enter Try.func65, Try.ntmps65
      go_wp2_with fail
      obtain ⟨W1, hW1⟩ : ∃ W1, Hid (W1 = w.alloc (.cells zeroSt 94)) := ⟨_, rfl⟩
      change Calls _ _ _ (w.alloc (.cells zeroSt 94)) _
      rw [← hW1.out]
      have hb1 : Below w.heap.size w W1 := by rw [hW1.out]; exact (Below.refl _ w).alloc (Nat.le_refl _) _
      have HT1 : Hid (W1.heap[w.heap.size]? = some (.cells zeroSt 94 (0, 0))) := by show _ = _; rw [hW1.out]; exact heap_alloc_new w _
      refine (rfind_any s p 60 W1 hp hs k hfind).mono ?_
      rintro e w2 ⟨rfl, hb2⟩
      go_wp2_with fail
      refine (RUndo_at _ false w2 HXS.out u m 0 hU).mono ?_
      rintro e w3 ⟨rfl, hb3⟩
      have HT4 := Lib.hid (blk_below hb3 (blk_below hb2 HT1.out))
      go_wp2_with (refine wpList_store_row rfl 94 (.tmp 4) (.tmp 37) rfl w.heap.size (stC k 4 p [] u none 0 0 0 0) rfl rfl 94 zeroSt HT4.out (by kernel_rfl) rfl (stC_one _ _ _ _ _ _ _ _ _ _) ?_)
      try simp only [Exit.inBlock, Exit.then]
      refine bodyPost_ret (results_cell_row Try.results65 _ _ w.heap.size 94 (stC k 4 p [] u none 0 0 0 0) (0, 0) _ rfl (setRow_heap _ _ _ _ _ _ HT4.out) Try.underlying94 rfl (by kernel_rfl)) rfl ?_
      rw [HV.out]
      refine ⟨below_stored (hb1.trans ((hb2.trans (hb3.mono hb2.size)).mono hb1.size)) (Nat.le_refl _) _, none, 0, ?_, World.ownsRow_nil _ _ _ _⟩
      rw [hk.out]; rfl
  · have he1 : (e != 0) = true := by simpa using he
    have HV : Hid (V = .bad m e) := by show _ = _; rw [← hV.out, hVT.out, if_pos he]
    clear he
    go_enter Try.func65, Try.ntmps65
    go_wp2_with fail
    obtain ⟨W1, hW1⟩ : ∃ W1, Hid (W1 = w.alloc (.cells zeroSt 94)) := ⟨_, rfl⟩
    change Calls _ _ _ (w.alloc (.cells zeroSt 94)) _
    rw [← hW1.out]
    have hb1 : Below w.heap.size w W1 := by rw [hW1.out]; exact (Below.refl _ w).alloc (Nat.le_refl _) _
    have HT1 : Hid (W1.heap[w.heap.size]? = some (.cells zeroSt 94 (0, 0))) := by show _ = _; rw [hW1.out]; exact heap_alloc_new w _
    refine (rfind_any s p 60 W1 hp hs k hfind).mono ?_
    rintro e w2 ⟨rfl, hb2⟩
    go_wp2_with fail
    refine (RUndo_at _ false w2 HXS.out u m _ hU).mono ?_
    rintro e3 w3 ⟨rfl, hb3⟩
    go_wp2_with fail
    refine (rfails_any _ _ w3).mono ?_
    rintro e4 w4 ⟨rfl, hb4⟩
    have HT4 := Lib.hid (blk_below hb4 (blk_below hb3 (blk_below hb2 HT1.out)))
    rename Int => er
    go_wp2_with (refine wpList_store_row rfl 94 (.tmp 4) (.tmp 27) rfl w.heap.size (stC 0 0 0 [] [] none 0 0 ((p : Int) + m) er) rfl rfl 94 zeroSt HT4.out (by kernel_rfl) rfl (stC_one _ _ _ _ _ _ _ _ _ _) ?_)
    try simp only [Exit.inBlock, Exit.then]
    refine bodyPost_ret (results_cell_row Try.results65 _ _ w.heap.size 94 (stC 0 0 0 [] [] none 0 0 ((p : Int) + m) er) (0, 0) _ rfl (setRow_heap _ _ _ _ _ _ HT4.out) Try.underlying94 rfl (by kernel_rfl)) rfl ?_
    rw [HV.out]
    exact ⟨below_stored (hb1.trans ((hb2.trans ((hb3.trans (hb4.mono hb3.size)).mono hb2.size)).mono hb1.size)) (Nat.le_refl _) _, rfl⟩

set_option maxRecDepth 100000 in
set_option maxHeartbeats 2000000 in
theorem rend_any (s : ByteArray) (p : Nat) (w : World) (hp : p + 2 ≤ s.size) (hs : s.size ≤ 1000000000) (V : Told TokD) (hV : Hid (endT (s.data.toList.drop (p + 2)) = V)) :
    Calls Try.prog 63 #[.string s, .int .i64 p] w (StPost w (p + 2) p V) := by
  have HL := Lib.hid (size_toList s)
  obtain ⟨n, hn⟩ : ∃ n, Hid (wordL (s.data.toList.drop (p + 2)) = n) := ⟨_, rfl⟩
  obtain ⟨v, hv⟩ : ∃ v, Hid (nameL n = v) := ⟨_, rfl⟩
  obtain ⟨k, hk⟩ : ∃ k, Hid (p + 2 + n.length = k) := ⟨_, rfl⟩
  have hkl : k ≤ s.size := by
    have := wordL_len (s.data.toList.drop (p + 2))
    rw [hn.out, List.length_drop, HL.out] at this
    have := hk.out
    omega
  have hword : Hid (p + 2 + (wordL (s.data.toList.drop (p + 2))).length = k) := by show _ = _; rw [hn.out]; exact hk.out
  have hx : (s.extract (p + 2) k).data.toList = n := by
    rw [Lib.extract_data]
    have h2 := span_word (s.data.toList.drop (p + 2)) nb
    have e : (s.data.toList.drop (p + 2)).takeWhile nb = n := hn.out
    rw [e] at h2
    rw [show k - (p + 2) = n.length by have := hk.out; omega]
    conv => lhs; rw [h2]
    rw [List.take_append_of_le_length (Nat.le_refl _), List.take_length]
  have hname : Hid (nameL (s.extract (p + 2) k).data.toList = v) := by show _ = _; rw [hx]; exact hv.out
  have hxe : Hid (s.extract (p + 2) k = ⟨n.toArray⟩) := by
    show _ = _
    rw [← hx]
  have hxs : (s.extract (p + 2) k).size ≤ 1000000000 := by rw [ByteArray.size_extract]; omega
  have HXS := Lib.hid hxs
  have i0 : (0 : Int) ≤ (p : Int) := by omega
  have i1 : (p : Int) + 2 ≤ k := by have := hk.out; omega
  have i2 : (k : Int) ≤ s.size := by omega
  have i3 : (p : Int) + 2 ≤ s.size := by omega
  clear hx hxs
  cases v with
  | false =>
    have HV : Hid (V = .bad 0 31) := by
      show _ = _
      rw [← hV.out]
      unfold endT
      simp only [hn.out, hv.out]
      rw [if_pos trivial]
    go_enter Try.func63, Try.ntmps63
    go_wp2_with fail
    obtain ⟨W1, hW1⟩ : ∃ W1, Hid (W1 = w.alloc (.cells zeroSt 94)) := ⟨_, rfl⟩
    change Calls _ _ _ (w.alloc (.cells zeroSt 94)) _
    rw [← hW1.out]
    have hb1 : Below w.heap.size w W1 := by rw [hW1.out]; exact (Below.refl _ w).alloc (Nat.le_refl _) _
    have HT1 : Hid (W1.heap[w.heap.size]? = some (.cells zeroSt 94 (0, 0))) := by show _ = _; rw [hW1.out]; exact heap_alloc_new w _
    refine (rword_any s (p + 2) W1 hp hs k hword).mono ?_
    rintro e w2 ⟨rfl, hb2⟩
    go_wp2_with fail
    refine (RName_any _ w2 HXS.out false hname).mono ?_
    rintro e w3 ⟨rfl, hb3⟩
    go_wp2_with fail
    refine (rfails_any _ 31 w3).mono ?_
    rintro e w4 ⟨rfl, hb4⟩
    have HT4 := Lib.hid (blk_below hb4 (blk_below hb3 (blk_below hb2 HT1.out)))
    go_wp2_with (refine wpList_store_row rfl 94 (.tmp 4) (.tmp 20) rfl w.heap.size (stC 0 0 0 [] [] none 0 0 ((p : Int) + 2) 31) rfl rfl 94 zeroSt HT4.out (by kernel_rfl) rfl (stC_one _ _ _ _ _ _ _ _ _ _) ?_)
    try simp only [Exit.inBlock, Exit.then]
    refine bodyPost_ret (results_cell_row Try.results63 _ _ w.heap.size 94 (stC 0 0 0 [] [] none 0 0 ((p : Int) + 2) 31) (0, 0) _ rfl (setRow_heap _ _ _ _ _ _ HT4.out) Try.underlying94 rfl (by kernel_rfl)) rfl ?_
    rw [HV.out]
    exact ⟨below_stored (hb1.trans ((hb2.trans ((hb3.trans (hb4.mono hb3.size)).mono hb2.size)).mono hb1.size)) (Nat.le_refl _) _, rfl⟩
  | true =>
    obtain ⟨j, hj⟩ : ∃ j, Hid (k + skipL (s.data.toList.drop k) = j) := ⟨_, rfl⟩
    have hjl : j ≤ s.size := by
      have := skipL_len (s.data.toList.drop k)
      rw [List.length_drop, HL.out] at this
      have := hj.out
      omega
    obtain ⟨m, hm⟩ : ∃ m, Hid (pre [62] (s.data.toList.drop j) = m) := ⟨_, rfl⟩
    have hjk : k ≤ j := by have := hj.out; omega
    have hVE : Hid (V = if m then .ok ⟨2, n, [], []⟩ (j - (p + 2) + 1) else .bad (j - (p + 2)) 30) := by
      show _ = _
      rw [← hV.out]
      unfold endT
      simp only [hn.out, hv.out, List.drop_drop]
      rw [if_neg (by simp), hk.out, show p + 2 + (n.length + skipL (s.data.toList.drop k)) = j by have := hj.out; have := hk.out; omega, hm.out, show n.length + skipL (s.data.toList.drop k) = j - (p + 2) by have := hj.out; have := hk.out; omega]
    have j0 : (j : Int) ≤ s.size := by omega
    cases m with
    | false =>
      have HV : Hid (V = .bad (j - (p + 2)) 30) := hVE.out.trans (if_neg (by decide))
      go_enter Try.func63, Try.ntmps63
      go_wp2_with fail
      obtain ⟨W1, hW1⟩ : ∃ W1, Hid (W1 = w.alloc (.cells zeroSt 94)) := ⟨_, rfl⟩
      change Calls _ _ _ (w.alloc (.cells zeroSt 94)) _
      rw [← hW1.out]
      have hb1 : Below w.heap.size w W1 := by rw [hW1.out]; exact (Below.refl _ w).alloc (Nat.le_refl _) _
      have HT1 : Hid (W1.heap[w.heap.size]? = some (.cells zeroSt 94 (0, 0))) := by show _ = _; rw [hW1.out]; exact heap_alloc_new w _
      refine (rword_any s (p + 2) W1 hp hs k hword).mono ?_
      rintro e w2 ⟨rfl, hb2⟩
      go_wp2_with fail
      refine (RName_any _ w2 HXS.out true hname).mono ?_
      rintro e w3 ⟨rfl, hb3⟩
      go_wp2_with fail
      refine (rskip_any s k w3 hkl hs j hj).mono ?_
      rintro e w4 ⟨rfl, hb4⟩
      go_wp2_with fail
      refine (there_any s j [62] w4 hjl hs (by decide) false hm).mono ?_
      rintro e w5 ⟨rfl, hb5⟩
      go_wp2_with fail
      refine (rfails_any _ 30 w5).mono ?_
      rintro e w6 ⟨rfl, hb6⟩
      have HT6 := Lib.hid (blk_below hb6 (blk_below hb5 (blk_below hb4 (blk_below hb3 (blk_below hb2 HT1.out)))))
      go_wp2_with (refine wpList_store_row rfl 94 (.tmp 4) (.tmp 29) rfl w.heap.size (stC 0 0 0 [] [] none 0 0 (j : Int) 30) rfl rfl 94 zeroSt HT6.out (by kernel_rfl) rfl (stC_one _ _ _ _ _ _ _ _ _ _) ?_)
      try simp only [Exit.inBlock, Exit.then]
      refine bodyPost_ret (results_cell_row Try.results63 _ _ w.heap.size 94 (stC 0 0 0 [] [] none 0 0 (j : Int) 30) (0, 0) _ rfl (setRow_heap _ _ _ _ _ _ HT6.out) Try.underlying94 rfl (by kernel_rfl)) rfl ?_
      rw [HV.out]
      refine ⟨below_stored (hb1.trans ((hb2.trans ((hb3.trans ((hb4.trans ((hb5.trans (hb6.mono hb5.size)).mono hb4.size)).mono hb3.size)).mono hb2.size)).mono hb1.size)) (Nat.le_refl _) _, ?_⟩
      show _ = Ending.returned (.agg (stC 0 0 0 [] [] none 0 0 ((p + 2 + (j - (p + 2)) : Nat) : Int) 30))
      rw [show p + 2 + (j - (p + 2)) = j by have := hk.out; omega]
    | true =>
      have HV : Hid (V = .ok ⟨2, n, [], []⟩ (j - (p + 2) + 1)) := hVE.out.trans (if_pos rfl)
      have hsl : (j : Int) + 1 ≤ 1000000001 := by omega
      go_enter Try.func63, Try.ntmps63
      go_wp2_with fail
      obtain ⟨W1, hW1⟩ : ∃ W1, Hid (W1 = w.alloc (.cells zeroSt 94)) := ⟨_, rfl⟩
      change Calls _ _ _ (w.alloc (.cells zeroSt 94)) _
      rw [← hW1.out]
      have hb1 : Below w.heap.size w W1 := by rw [hW1.out]; exact (Below.refl _ w).alloc (Nat.le_refl _) _
      have HT1 : Hid (W1.heap[w.heap.size]? = some (.cells zeroSt 94 (0, 0))) := by show _ = _; rw [hW1.out]; exact heap_alloc_new w _
      refine (rword_any s (p + 2) W1 hp hs k hword).mono ?_
      rintro e w2 ⟨rfl, hb2⟩
      go_wp2_with fail
      refine (RName_any _ w2 HXS.out true hname).mono ?_
      rintro e w3 ⟨rfl, hb3⟩
      go_wp2_with fail
      refine (rskip_any s k w3 hkl hs j hj).mono ?_
      rintro e w4 ⟨rfl, hb4⟩
      go_wp2_with fail
      refine (there_any s j [62] w4 hjl hs (by decide) true hm).mono ?_
      rintro e w5 ⟨rfl, hb5⟩
      have HT6 := Lib.hid (blk_below hb5 (blk_below hb4 (blk_below hb3 (blk_below hb2 HT1.out))))
      have hxe' := hxe.out
      go_wp2_with (refine wpList_store_row rfl 94 (.tmp 4) (.tmp 39) rfl w.heap.size (stC ((j : Int) + 1) 2 p n [] none 0 0 0 0) rfl rfl 94 zeroSt HT6.out (by kernel_rfl) rfl (stC_one _ _ _ _ _ _ _ _ _ _) ?_)
      try simp only [Exit.inBlock, Exit.then]
      refine bodyPost_ret (results_cell_row Try.results63 _ _ w.heap.size 94 (stC ((j : Int) + 1) 2 p n [] none 0 0 0 0) (0, 0) _ rfl (setRow_heap _ _ _ _ _ _ HT6.out) Try.underlying94 rfl (by kernel_rfl)) rfl ?_
      rw [HV.out]
      refine ⟨below_stored (hb1.trans ((hb2.trans ((hb3.trans ((hb4.trans (hb5.mono hb4.size)).mono hb3.size)).mono hb2.size)).mono hb1.size)) (Nat.le_refl _) _, none, 0, ?_, World.ownsRow_nil _ _ _ _⟩
      rw [show p + 2 + (j - (p + 2) + 1) = j + 1 by have := hk.out; omega]
      rfl
end Go.Proofs.Ythifddkmbjnncaa

/-
  The document's reader of tokens: the walk of with.
-/
namespace Go.Proofs.Ythifddkmbjnncaa
open Go.RowKit

def restA (a : AttrD) (done : Bool) (l : List AttrD) : List AttrD := if done then l else insA a l
def WithPost (w : World) (m : List AttrD) (e : Ending) (w' : World) : Prop := Below w.heap.size w w' ∧ ∃ A c, e = .returned (.slice A m.length c) ∧ AttrsOwn w' w.heap.size A c m



set_option maxRecDepth 100000 in
set_option maxHeartbeats 4000000 in
theorem rwith_any (l : List AttrD) (A : Option Addr) (c : Nat) (a : AttrD) (w : World) (hA : AttrsAt w w.heap.size A l) (hl : l.length ≤ 1000) (M : List AttrD) (hM : Hid (insA a l = M)) :
    Calls Try.prog 111 #[.slice A l.length c, .agg #[.string ⟨a.name.toArray⟩, .string ⟨a.value.toArray⟩]] w (WithPost w M) := by
  have HA := Lib.hid hA
  clear hA
  have hM0 : Hid ([] ++ restA a false (l.drop 0) = M) := hM
  go_enter Try.func111, Try.ntmps111
  go_wp2_with fail
  obtain ⟨W1, hW1⟩ : ∃ W1, Hid (W1 = w.alloc (.cells #[.string ⟨a.name.toArray⟩, .string ⟨a.value.toArray⟩] 44)) := ⟨_, rfl⟩
  rw [← hW1.out]
  obtain ⟨N1, hN1⟩ : ∃ N1, Hid (N1 = W1.heap.size) := ⟨_, rfl⟩
  have hz1 : w.heap.size < N1 := by rw [hN1.out, hW1.out]; simp
  have hb1 : Below w.heap.size w W1 := by rw [hW1.out]; exact (Below.refl _ w).alloc (Nat.le_refl _) _
  have HBX : Hid (∀ w', Below N1 W1 w' → w'.cell? ⟨w.heap.size, 0, none⟩ = some (.string ⟨a.name.toArray⟩) ∧ w'.cell? ⟨w.heap.size, 1, none⟩ = some (.string ⟨a.value.toArray⟩)) := fun w' hb => by
    have h0 : W1.cell? ⟨w.heap.size, 0, none⟩ = some (.string ⟨a.name.toArray⟩) := by rw [hW1.out, World.cell?_alloc_at _ _ _ _ rfl]; rfl
    have h1 : W1.cell? ⟨w.heap.size, 1, none⟩ = some (.string ⟨a.value.toArray⟩) := by rw [hW1.out, World.cell?_alloc_at _ _ _ _ rfl]; rfl
    exact ⟨(hb.cell (p := ⟨w.heap.size, 0, none⟩) hz1).trans h0, (hb.cell (p := ⟨w.heap.size, 1, none⟩) hz1).trans h1⟩
  have HB1 := Lib.hid hb1
  clear hb1
  go_loopw [5, 6, 7] (fun ov dv i wr => ∃ (k : Nat) (out : List AttrD) (done : Bool) (O : Option Addr) (oc m : Nat), k ≤ l.length ∧ ov = .slice O m oc ∧ dv = .bool done ∧ i = .int .i64 (k : Int) ∧ Hid (out.length = m) ∧ m ≤ 2 * k ∧ Hid (AttrsOwn wr N1 O oc out) ∧ Hid (out ++ restA a done (l.drop k) = M) ∧ Hid (Below N1 W1 wr)) (fun _ _ i _ => l.length - (intOf i).toNat)
  case atStart => exact ⟨0, [], false, none, 0, 0, Nat.zero_le _, rfl, rfl, rfl, rfl, by omega, World.ownsRow_nil _ _ _ _, hM0.out, (Below.refl _ _ : Below N1 W1 W1)⟩
  case round =>
    obtain ⟨k, out, done, O, oc, m, hk, rfl, rfl, rfl, hm, hmk, hown, hin, hbel⟩ := hrel
    have hzr : N1 ≤ wr.heap.size := by rw [hN1.out]; exact hbel.out.size
    by_cases hlt : k < l.length
    · obtain ⟨b, hb⟩ : ∃ b, Hid (l[k]? = some b) := ⟨l[k], List.getElem?_eq_getElem _⟩
      have hAr : AttrsAt wr w.heap.size A l := (HA.out.below HB1.out).below (hbel.out.mono (Nat.le_of_lt hz1))
      obtain ⟨ad, hAd, had, hcc⟩ := hAr (by omega)
      subst hAd
      have hwz : w.heap.size < wr.heap.size := Nat.lt_of_lt_of_le hz1 hzr
      have k0 : (0 : Int) ≤ (k : Int) := by omega
      have k1 : (k : Int) < l.length := by omega
      have HCELL : Hid (∀ w', Below N1 wr w' → w'.cell? (ad.add (k * 2)) = some (.string ⟨b.name.toArray⟩) ∧ w'.cell? ⟨(ad.add (k * 2)).block, (ad.add (k * 2)).off + 1, none⟩ = some (.string ⟨b.value.toArray⟩) ∧ w'.cell? ⟨w.heap.size, 0, none⟩ = some (.string ⟨a.name.toArray⟩) ∧ w'.cell? ⟨w.heap.size, 1, none⟩ = some (.string ⟨a.value.toArray⟩)) := fun w' hbw => by
        obtain ⟨h0, h1⟩ := hcc k b hb.out
        have hx := HBX.out w' (hbel.out.trans hbw)
        have e : ∀ p : Addr, p.block = ad.block → w'.cell? p = wr.cell? p := fun p hp => hbw.cell (by rw [hp]; exact Nat.lt_trans had hz1)
        exact ⟨(e _ (block_of_add _ _)).trans h0, (e _ (by show (ad.add _).block = _; exact block_of_add _ _)).trans h1, hx.1, hx.2⟩
      clear hcc hAr
      have hdrop := Lib.hid (drop_cons hb.out)
      cases done with
      | true =>
        have HIN : Hid ((out ++ [b]) ++ restA a true (l.drop (k + 1)) = M) := by
          show _ = _
          rw [← hin.out, hdrop.out]
          unfold restA
          simp
        clear hin
        go_wp2_with fail
        refine wp_region_held_drew (S := fun _ => True) (by kernel_rfl) trivial (fun hHeld => ?_)
        refine tk (oi := ⟨_, _, _, _, _, _⟩) (v := ?_) 0 rfl (by kernel_rfl) (fun _ _ _ h => h) (.inl ⟨by rfl, ?_⟩) (by assumption) ?_; rotate_left
        · (intro wS hSw; (try dsimp only at hSw); go_simp); all_goals with_reducible rfl
        try go_frame
        refine tk (oi := ⟨_, _, _, _, _, _⟩) (v := ?_) 1 rfl (by kernel_rfl) (fun _ _ _ h => h) (.inl ⟨by rfl, ?_⟩) (by assumption) ?_; rotate_left
        · (intro wS hSw; (try dsimp only at hSw); go_simp); all_goals with_reducible rfl
        try go_frame
        refine tk (oi := ⟨_, _, _, _, _, _⟩) (v := ?_) 2 rfl (by kernel_rfl) (fun _ _ _ h => h) (.inl ⟨by rfl, ?_⟩) (by assumption) ?_; rotate_left
        · (intro wS hSw; (try dsimp only at hSw); go_simp); all_goals with_reducible rfl
        try go_frame
        refine tk (oi := ⟨_, _, _, _, _, _⟩) (v := undef) 3 rfl (by kernel_rfl) (fun _ _ _ h => h) (.inr ⟨by rfl, rfl⟩) (by assumption) ?_
        try go_frame
        refine tk (oi := ⟨_, _, _, _, _, _⟩) (v := undef) 4 rfl (by kernel_rfl) (fun _ _ _ h => h) (.inr ⟨by rfl, rfl⟩) (by assumption) ?_
        try go_frame
        refine tk (oi := ⟨_, _, _, _, _, _⟩) (v := undef) 5 rfl (by kernel_rfl) (fun _ _ _ h => h) (.inr ⟨by rfl, rfl⟩) (by assumption) ?_
        try go_frame
        refine tk (oi := ⟨_, _, _, _, _, _⟩) (v := undef) 6 rfl (by kernel_rfl) (fun _ _ _ h => h) (.inr ⟨by rfl, rfl⟩) (by assumption) ?_
        try go_frame
        refine tk (oi := ⟨_, _, _, _, _, _⟩) (v := undef) 7 rfl (by kernel_rfl) (fun _ _ _ h => h) (.inr ⟨by rfl, rfl⟩) (by assumption) ?_
        try go_frame
        refine tk (oi := ⟨_, _, _, _, _, _⟩) (v := undef) 8 rfl (by kernel_rfl) (fun _ _ _ h => h) (.inr ⟨by rfl, rfl⟩) (by assumption) ?_
        try go_frame
        refine tk (oi := ⟨_, _, _, _, _, _⟩) (v := undef) 9 rfl (by kernel_rfl) (fun _ _ _ h => h) (.inr ⟨by rfl, rfl⟩) (by assumption) ?_
        try go_frame
        refine tk (oi := ⟨_, _, _, _, _, _⟩) (v := undef) 10 rfl (by kernel_rfl) (fun _ _ _ h => h) (.inr ⟨by rfl, rfl⟩) (by assumption) ?_
        try go_frame
        refine tk (oi := ⟨_, _, _, _, _, _⟩) (v := ?_) 11 rfl (by kernel_rfl) (fun _ _ _ h => h) (.inl ⟨by rfl, ?_⟩) (by assumption) ?_; rotate_left
        · (intro wS hSw; (try dsimp only at hSw); go_simp); all_goals with_reducible rfl
        try go_frame
        refine wpAnyH_done (by kernel_rfl) ?_ _
        clear hHeld
        obtain ⟨W3, hW3⟩ : ∃ W3, Hid (W3 = wr.drew) := ⟨_, rfl⟩
        rw [← hW3.out]
        have hb3 : Below N1 wr W3 := by rw [hW3.out]; exact (Below.refl _ _).drew
        have hown3' : W3.ownsRow N1 44 2 (.slice O m oc) m (out.flatMap cellsA) := by rw [hW3.out, ← hm.out]; exact hown.out
        have hz3 : N1 ≤ W3.heap.size := Nat.le_trans hzr hb3.size
        have hcell3 := HCELL.out _ hb3
        obtain ⟨c0, c1, _, _⟩ := hcell3
        have hown3 : W3.ownsRow N1 44 2 (.slice O m oc) m (List.flatMap cellsA out) := hown3'
        go_wp2_with (at_builtin; go_loud (refine appendS rfl (.tmp 30) (.tmp 35) 31 rfl N1 44 (.agg #[.string ByteArray.empty, .string ByteArray.empty]) 2 32 Try.underlying31 infoAttr rfl (by decide) _ m _ (cellsA b) rfl hown3 hz3 _ rfl rfl (cellsA_length _) (by intro v hv; exact cellsA_one [b] v (by simpa using hv)) (by omega) (by decide) ?_))
        intro a5 c5 w5 hown5 hb5 hz5 hg5
        have hown5' : AttrsOwn w5 N1 a5 c5 (out ++ [b]) := by
          unfold AttrsOwn
          rw [List.length_append, List.flatMap_append, hm.out]
          simpa using hown5
        clear hown5 hg5 hown3
        go_wp2_with fail
        go_roundw
        case rel => exact ⟨k + 1, out ++ [b], true, a5, c5, m + 1, by omega, by go_num, rfl, by go_num, by show _ = _; rw [List.length_append, hm.out]; rfl, by omega, hown5', HIN.out, hbel.out.trans (hb3.trans hb5)⟩
        case measure => simp [intOf]; omega
      | false =>
        obtain ⟨bv, hbv⟩ : ∃ bv, Hid (Op.bytesLess a.name b.name = bv) := ⟨_, rfl⟩
        obtain ⟨x1, hx1⟩ : ∃ x1, Op.bytesLess b.name a.name = x1 := ⟨_, rfl⟩
        obtain ⟨x2, hx2⟩ : ∃ x2, (b.name == a.name) = x2 := ⟨_, rfl⟩
        have hxx : Hid ((!x1 && !x2) = bv) := by
          show _ = _
          rw [← hx1, ← hx2, ← hbv.out]
          cases h1 : Op.bytesLess a.name b.name with
          | true =>
            have h2 : (b.name == a.name) = false := beq_eq_false_iff_ne.2 (fun e => less_ne h1 e.symm)
            rw [less_asymm h1, h2]; rfl
          | false =>
            cases h3 : Op.bytesLess b.name a.name with
            | true => rfl
            | false => rw [less_tri h3 h1]; simp
        have HS : Hid (wr.drew.cell? (ad.add (k * 2)) = some (.string ⟨b.name.toArray⟩) ∧ wr.drew.cell? ⟨w.heap.size, 0, none⟩ = some (.string ⟨a.name.toArray⟩)) := by
          have := HCELL.out _ (Below.refl N1 wr).drew
          exact ⟨this.1, this.2.2.1⟩
        go_wp2_with fail
        refine wp_region_held_drew (S := fun w' => w'.cell? (ad.add (k * 2)) = some (.string ⟨b.name.toArray⟩) ∧ w'.cell? ⟨w.heap.size, 0, none⟩ = some (.string ⟨a.name.toArray⟩)) (by kernel_rfl) HS.out (fun hHeld => ?_)
        refine tk (oi := ⟨_, _, _, _, _, _⟩) (v := ?_) 0 rfl (by kernel_rfl) (fun _ _ _ h => h) (.inl ⟨by rfl, ?_⟩) (by assumption) ?_; rotate_left
        · (intro wS hSw; (try dsimp only at hSw); go_simp); all_goals with_reducible rfl
        try go_frame
        refine tk (oi := ⟨_, _, _, _, _, _⟩) (v := ?_) 1 rfl (by kernel_rfl) (fun _ _ _ h => h) (.inl ⟨by rfl, ?_⟩) (by assumption) ?_; rotate_left
        · (intro wS hSw; (try dsimp only at hSw); go_simp); all_goals with_reducible rfl
        try go_frame
        refine tk (oi := ⟨_, _, _, _, _, _⟩) (v := ?_) 2 rfl (by kernel_rfl) (fun _ _ _ h => h) (.inl ⟨by rfl, ?_⟩) (by assumption) ?_; rotate_left
        · (intro wS hSw; (try dsimp only at hSw); go_simp); all_goals with_reducible rfl
        try go_frame
        refine tk (oi := ⟨_, _, _, _, _, _⟩) (v := ?_) 3 rfl (by kernel_rfl) (fun _ _ _ h => h) (.inl ⟨by rfl, ?_⟩) (by assumption) ?_; rotate_left
        · (intro wS hSw; (try dsimp only at hSw); go_simp); all_goals with_reducible rfl
        try go_frame
        refine tk (oi := ⟨_, _, _, _, _, _⟩) (v := ?_) 4 rfl (by kernel_rfl) (fun _ _ _ h => h) (.inl ⟨by rfl, ?_⟩) (by assumption) ?_; rotate_left
        · (intro wS hSw; (try dsimp only at hSw); go_simp); all_goals with_reducible rfl
        try go_frame
        refine tk (oi := ⟨_, _, _, _, _, _⟩) (v := ?_) 5 rfl (by kernel_rfl) (fun _ _ _ h => h) (.inl ⟨by rfl, ?_⟩) (by assumption) ?_; rotate_left
        · (intro wS hSw; (try dsimp only at hSw); go_simp); all_goals with_reducible rfl
        try go_frame
        refine tk (oi := ⟨_, _, _, _, _, _⟩) (v := ?_) 6 rfl (by kernel_rfl) (fun _ _ _ h => h) (.inl ⟨by rfl, ?_⟩) (by assumption) ?_; rotate_left
        · (intro wS hSw; (try dsimp only at hSw); go_simp); all_goals with_reducible rfl
        try go_frame
        refine tk (oi := ⟨_, _, _, _, _, _⟩) (v := ?_) 7 rfl (by kernel_rfl) (fun _ _ _ h => h) (.inl ⟨by rfl, ?_⟩) (by assumption) ?_; rotate_left
        · (intro wS hSw; (try dsimp only at hSw); go_simp); all_goals with_reducible rfl
        try go_frame
        refine tk (oi := ⟨_, _, _, _, _, _⟩) (v := ?_) 8 rfl (by kernel_rfl) (fun _ _ _ h => h) (.inl ⟨by rfl, ?_⟩) (by assumption) ?_; rotate_left
        · (intro wS hSw; (try dsimp only at hSw); go_simp); all_goals with_reducible rfl
        try go_frame
        refine tk (oi := ⟨_, _, _, _, _, _⟩) (v := ?_) 9 rfl (by kernel_rfl) (fun _ _ _ h => h) (.inl ⟨by rfl, ?_⟩) (by assumption) ?_; rotate_left
        · (intro wS hSw; (try dsimp only at hSw); go_simp); all_goals with_reducible rfl
        try go_frame
        refine tk (oi := ⟨_, _, _, _, _, _⟩) (v := ?_) 10 rfl (by kernel_rfl) (fun _ _ _ h => h) (.inl ⟨by rfl, ?_⟩) (by assumption) ?_; rotate_left
        · (intro wS hSw; (try dsimp only at hSw); go_simp); all_goals with_reducible rfl
        try go_frame
        refine tk (oi := ⟨_, _, _, _, _, _⟩) (v := ?_) 11 rfl (by kernel_rfl) (fun _ _ _ h => h) (.inl ⟨by rfl, ?_⟩) (by assumption) ?_; rotate_left
        · (intro wS hSw; (try dsimp only at hSw); go_simp); all_goals with_reducible rfl
        try go_frame
        refine wpAnyH_done (by kernel_rfl) ?_ _
        clear hHeld hx1 hx2
        rw [hxx.out]
        obtain ⟨W3, hW3⟩ : ∃ W3, Hid (W3 = wr.drew) := ⟨_, rfl⟩
        rw [← hW3.out]
        have hb3 : Below N1 wr W3 := by rw [hW3.out]; exact (Below.refl _ _).drew
        have hown3' : W3.ownsRow N1 44 2 (.slice O m oc) m (out.flatMap cellsA) := by rw [hW3.out, ← hm.out]; exact hown.out
        have hz3 : N1 ≤ W3.heap.size := Nat.le_trans hzr hb3.size
        cases bv with
        | false =>
          have HIN : Hid ((out ++ [b]) ++ restA a false (l.drop (k + 1)) = M) := by
            show _ = _
            rw [← hin.out, hdrop.out]
            unfold restA
            simp [insA, hbv.out]
          clear hin hbv
          have hcell3 := HCELL.out _ hb3
          obtain ⟨c0, c1, _, _⟩ := hcell3
          have hown3 : W3.ownsRow N1 44 2 (.slice O m oc) m (List.flatMap cellsA out) := hown3'
          go_wp2_with (at_builtin; go_loud (refine appendS rfl (.tmp 30) (.tmp 35) 31 rfl N1 44 (.agg #[.string ByteArray.empty, .string ByteArray.empty]) 2 32 Try.underlying31 infoAttr rfl (by decide) _ m _ (cellsA b) rfl hown3 hz3 _ rfl rfl (cellsA_length _) (by intro v hv; exact cellsA_one [b] v (by simpa using hv)) (by omega) (by decide) ?_))
          intro a5 c5 w5 hown5 hb5 hz5 hg5
          have hown5' : AttrsOwn w5 N1 a5 c5 (out ++ [b]) := by
            unfold AttrsOwn
            rw [List.length_append, List.flatMap_append, hm.out]
            simpa using hown5
          clear hown5 hg5 hown3
          go_wp2_with fail
          go_roundw
          case rel => exact ⟨k + 1, out ++ [b], false, a5, c5, m + 1, by omega, by go_num, rfl, by go_num, by show _ = _; rw [List.length_append, hm.out]; rfl, by omega, hown5', HIN.out, hbel.out.trans (hb3.trans hb5)⟩
          case measure => simp [intOf]; omega
        | true =>
          have HIN : Hid ((out ++ [a] ++ [b]) ++ restA a true (l.drop (k + 1)) = M) := by
            show _ = _
            rw [← hin.out, hdrop.out]
            unfold restA
            simp [insA, hbv.out]
          clear hin hbv
          have hcellA := HCELL.out _ hb3
          obtain ⟨_, _, d0, d1⟩ := hcellA
          go_wp2_with (at_builtin; go_loud (refine appendS rfl (.tmp 26) (.tmp 28) 31 rfl N1 44 (.agg #[.string ByteArray.empty, .string ByteArray.empty]) 2 32 Try.underlying31 infoAttr rfl (by decide) _ m _ (cellsA a) rfl hown3' hz3 _ rfl rfl (cellsA_length _) (by intro v hv; exact cellsA_one [a] v (by simpa using hv)) (by omega) (by decide) ?_))
          intro a4 c4 w4 hown4 hb4 hz4 hg4
          have hown4' : w4.ownsRow N1 44 2 (.slice a4 (m + 1) c4) (m + 1) ((out ++ [a]).flatMap cellsA) := by
            rw [List.flatMap_append]
            simpa using hown4
          have hb34 : Below N1 wr w4 := hb3.trans hb4
          have hz4' : N1 ≤ w4.heap.size := Nat.le_trans hzr hb34.size
          have hlen4 : Hid ((out ++ [a]).length = m + 1) := by show _ = _; rw [List.length_append, hm.out]; rfl
          clear hown4 hg4 d0 d1
          have hcell3 := HCELL.out _ hb34
          obtain ⟨c0, c1, _, _⟩ := hcell3
          have hown3 : w4.ownsRow N1 44 2 (.slice a4 (m + 1) c4) (m + 1) (List.flatMap cellsA (out ++ [a])) := hown4'
          go_wp2_with (at_builtin; go_loud (refine appendS rfl (.tmp 30) (.tmp 35) 31 rfl N1 44 (.agg #[.string ByteArray.empty, .string ByteArray.empty]) 2 32 Try.underlying31 infoAttr rfl (by decide) _ (m + 1) _ (cellsA b) rfl hown3 hz4' _ rfl rfl (cellsA_length _) (by intro v hv; exact cellsA_one [b] v (by simpa using hv)) (by omega) (by decide) ?_))
          intro a5 c5 w5 hown5 hb5 hz5 hg5
          have hown5' : AttrsOwn w5 N1 a5 c5 ((out ++ [a]) ++ [b]) := by
            unfold AttrsOwn
            rw [List.length_append, List.flatMap_append, hlen4.out]
            simpa using hown5
          clear hown5 hg5 hown3
          go_wp2_with fail
          go_roundw
          case rel => exact ⟨k + 1, (out ++ [a]) ++ [b], true, a5, c5, (m + 1) + 1, by omega, by go_num, rfl, by go_num, by show _ = _; rw [List.length_append, hlen4.out]; rfl, by omega, hown5', HIN.out, hbel.out.trans (hb34.trans hb5)⟩
          case measure => simp [intOf]; omega
    · have hd : Hid (l.drop k = []) := List.drop_eq_nil_of_le (by omega)
      have k1 : (l.length : Int) ≤ (k : Int) := by omega
      have hbw : Below w.heap.size w wr := HB1.out.trans (hbel.out.mono (Nat.le_of_lt hz1))
      cases done with
      | true =>
        have HO : Hid (out = M) := by
          show _ = _
          have := hin.out
          rw [hd.out] at this
          unfold restA at this
          simpa using this
        go_wp2_with fail
        go_ret
        exact ⟨hbw, O, oc, by rw [← HO.out, hm.out]; rfl, by rw [← HO.out]; exact row_base hown.out (Nat.le_of_lt hz1)⟩
      | false =>
        have HO : Hid (out ++ [a] = M) := by
          show _ = _
          have := hin.out
          rw [hd.out] at this
          unfold restA at this
          simpa [insA] using this
        obtain ⟨d0, d1⟩ := HBX.out wr hbel.out
        have hown3' : wr.ownsRow N1 44 2 (.slice O m oc) m (out.flatMap cellsA) := by rw [← hm.out]; exact hown.out
        go_wp2_with (at_builtin; go_loud (refine appendS rfl (.tmp 39) (.tmp 41) 31 rfl N1 44 (.agg #[.string ByteArray.empty, .string ByteArray.empty]) 2 32 Try.underlying31 infoAttr rfl (by decide) _ m _ (cellsA a) rfl hown3' hzr _ rfl rfl (cellsA_length _) (by intro v hv; exact cellsA_one [a] v (by simpa using hv)) (by omega) (by decide) ?_))
        intro a4 c4 w4 hown4 hb4 hz4 hg4
        have hown4' : w4.ownsRow N1 44 2 (.slice a4 (m + 1) c4) (m + 1) ((out ++ [a]).flatMap cellsA) := by
          rw [List.flatMap_append]
          simpa using hown4
        have hml : Hid (m + 1 = M.length) := by show _ = _; rw [← HO.out, List.length_append, hm.out]; rfl
        have HOW4 := Lib.hid hown4'
        clear hown4 hg4 hown4'
        go_wp2_with fail
        go_ret
        refine ⟨hbw.trans (hb4.mono (Nat.le_of_lt hz1)), a4, c4, by rw [← hml.out]; rfl, ?_⟩
        have := HOW4.out
        rw [HO.out, hml.out] at this
        exact row_base this (Nat.le_of_lt hz1)
end Go.Proofs.Ythifddkmbjnncaa

/-
  The walks of ref03.SameAttrs and of slices.Equal at attributes.
-/
namespace Go.Proofs.Ythifddkmbjnncaa
open Go.RowKit

theorem beq_str (a c : List UInt8) : (ByteArray.toList ⟨a.toArray⟩ == ByteArray.toList ⟨c.toArray⟩) = decide (a = c) := by
  rw [ByteArray.toList_eq, ByteArray.toList_eq]
  show (a.toArray.toList == c.toArray.toList) = _
  cases h : (a == c) <;> simp_all

theorem attr_neq (a b c d : List UInt8) (w : World) : (binOp .neq 44 (.agg #[.string ⟨a.toArray⟩, .string ⟨b.toArray⟩]) (.agg #[.string ⟨c.toArray⟩, .string ⟨d.toArray⟩])).run Try.prog w = .ok (.bool (!(decide (a = c) && decide (b = d)))) w := by
  rw [run_neq_struct, run_equalIn_struct w 9999 _ _ _ (by kernel_rfl) (by kernel_rfl)]
  rw [← beq_str a c, ← beq_str b d]
  generalize (⟨a.toArray⟩ : ByteArray) = x
  generalize (⟨b.toArray⟩ : ByteArray) = y
  generalize (⟨c.toArray⟩ : ByteArray) = z
  generalize (⟨d.toArray⟩ : ByteArray) = v
  simp [go_sem]
  by_cases h1 : x.toList = z.toList <;> by_cases h2 : y.toList = v.toList <;> simp [h1, h2]

set_option maxRecDepth 100000 in
set_option maxHeartbeats 2000000 in
theorem SameAttrs_any (l m : List AttrD) (A B : Option Addr) (c d : Nat) (w : World) (hA : AttrsAt w w.heap.size A l) (hB : AttrsAt w w.heap.size B m) (hl : l.length ≤ 1000000000) (hm : m.length ≤ 1000000000) (R : Bool) (hR : Hid (decide (l = m) = R)) :
    Calls Try.prog 39 #[.slice A l.length c, .slice B m.length d] w (Ret w (.bool R)) := by
  have HA := Lib.hid hA
  have HB := Lib.hid hB
  clear hA hB
  by_cases hne : l.length = m.length
  · have hR0 : Hid (decide (l.drop 0 = m.drop 0) = R) := hR
    have t0 : ((l.length : Int) != m.length) = false := by simp [hne]
    have HNE := Lib.hid hne
    clear hne hR
    go_enter Try.func39, Try.ntmps39
    go_wp2_with fail
    go_loopw [5] (fun i wr => ∃ (k : Nat), k ≤ l.length ∧ i = .int .i64 k ∧ Hid (decide (l.drop k = m.drop k) = R) ∧ Below w.heap.size w wr) (fun i _ => l.length - (intOf i).toNat)
    case atStart => exact ⟨0, Nat.zero_le _, rfl, hR0, Below.refl _ _⟩
    case round =>
      obtain ⟨k, hk, rfl, hin, hbel⟩ := hrel
      have hzr := hbel.size
      by_cases hlt : k < l.length
      · have hlm : k < m.length := by have := HNE.out; omega
        obtain ⟨a, ha⟩ : ∃ a, Hid (l[k]? = some a) := ⟨l[k], List.getElem?_eq_getElem _⟩
        obtain ⟨b, hb⟩ : ∃ b, Hid (m[k]? = some b) := ⟨m[k], List.getElem?_eq_getElem _⟩
        obtain ⟨ad, hAd, hab, hac⟩ := HA.out (by omega)
        obtain ⟨bd, hBd, hbb, hbc⟩ := HB.out (by omega)
        subst hAd; subst hBd
        have hlt' : (k : Int) < l.length := by omega
        have hlm' : (k : Int) < m.length := by omega
        have hk0 : (0 : Int) ≤ (k : Int) := by omega
        have HS : Hid (wr.drew.cell? (ad.add (k * 2)) = some (.string ⟨a.name.toArray⟩) ∧ wr.drew.cell? ⟨(ad.add (k * 2)).block, (ad.add (k * 2)).off + 1, none⟩ = some (.string ⟨a.value.toArray⟩) ∧ wr.drew.cell? (bd.add (k * 2)) = some (.string ⟨b.name.toArray⟩) ∧ wr.drew.cell? ⟨(bd.add (k * 2)).block, (bd.add (k * 2)).off + 1, none⟩ = some (.string ⟨b.value.toArray⟩)) := by
          have hb' := hbel.drew
          refine ⟨?_, ?_, ?_, ?_⟩
          · rw [hb'.cell (by rw [block_of_add]; exact hab)]; exact (hac k a ha.out).1
          · rw [hb'.cell (by show (ad.add _).block < _; rw [block_of_add]; exact hab)]; exact (hac k a ha.out).2
          · rw [hb'.cell (by rw [block_of_add]; exact hbb)]; exact (hbc k b hb.out).1
          · rw [hb'.cell (by show (bd.add _).block < _; rw [block_of_add]; exact hbb)]; exact (hbc k b hb.out).2
        clear hac hbc
        have hin' := hin.out
        rw [drop_cons ha.out, drop_cons hb.out] at hin'
        have hneq := fun w' => attr_neq a.name a.value b.name b.value w'
        by_cases he : a.name = b.name ∧ a.value = b.value
        · have HIN : Hid (decide (l.drop (k + 1) = m.drop (k + 1)) = R) := by
            show _ = _
            rw [← hin']
            have : a = b := by cases a; cases b; simp_all
            simp [this]
          have he' : (decide (a.name = b.name) && decide (a.value = b.value)) = true := by simpa using he
          simp only [he', Bool.not_true] at hneq
          clear he he' hin' hin
          go_wp2_with fail
          refine wp_region_held_drew (S := fun w' => w'.cell? (ad.add (k * 2)) = some (.string ⟨a.name.toArray⟩) ∧ w'.cell? ⟨(ad.add (k * 2)).block, (ad.add (k * 2)).off + 1, none⟩ = some (.string ⟨a.value.toArray⟩) ∧ w'.cell? (bd.add (k * 2)) = some (.string ⟨b.name.toArray⟩) ∧ w'.cell? ⟨(bd.add (k * 2)).block, (bd.add (k * 2)).off + 1, none⟩ = some (.string ⟨b.value.toArray⟩)) (by kernel_rfl) HS.out (fun hHeld => ?_)
          refine tk (oi := ⟨_, _, _, _, _, _⟩) (v := ?_) 0 rfl (by kernel_rfl) (fun _ _ _ h => h) (.inl ⟨by rfl, ?_⟩) (by assumption) ?_; rotate_left
          · (intro wS hSw; (try dsimp only at hSw); go_simp); all_goals with_reducible rfl
          try go_frame
          refine tk (oi := ⟨_, _, _, _, _, _⟩) (v := ?_) 1 rfl (by kernel_rfl) (fun _ _ _ h => h) (.inl ⟨by rfl, ?_⟩) (by assumption) ?_; rotate_left
          · (intro wS hSw; (try dsimp only at hSw); go_simp); all_goals with_reducible rfl
          try go_frame
          refine tk (oi := ⟨_, _, _, _, _, _⟩) (v := ?_) 2 rfl (by kernel_rfl) (fun _ _ _ h => h) (.inl ⟨by rfl, ?_⟩) (by assumption) ?_; rotate_left
          · (intro wS hSw; (try dsimp only at hSw); go_simp); all_goals with_reducible rfl
          try go_frame
          refine tk (oi := ⟨_, _, _, _, _, _⟩) (v := ?_) 3 rfl (by kernel_rfl) (fun _ _ _ h => h) (.inl ⟨by rfl, ?_⟩) (by assumption) ?_; rotate_left
          · (intro wS hSw; (try dsimp only at hSw); go_simp); all_goals with_reducible rfl
          try go_frame
          refine tk (oi := ⟨_, _, _, _, _, _⟩) (v := ?_) 4 rfl (by kernel_rfl) (fun _ _ _ h => h) (.inl ⟨by rfl, ?_⟩) (by assumption) ?_; rotate_left
          · (intro wS hSw; (try dsimp only at hSw); go_simp); all_goals with_reducible rfl
          try go_frame
          refine tk (oi := ⟨_, _, _, _, _, _⟩) (v := ?_) 5 rfl (by kernel_rfl) (fun _ _ _ h => h) (.inl ⟨by rfl, ?_⟩) (by assumption) ?_; rotate_left
          · (intro wS hSw; (try dsimp only at hSw); go_simp); all_goals with_reducible rfl
          try go_frame
          refine tk (oi := ⟨_, _, _, _, _, _⟩) (v := ?_) 6 rfl (by kernel_rfl) (fun _ _ _ h => h) (.inl ⟨by rfl, ?_⟩) (by assumption) ?_; rotate_left
          · (intro wS hSw; (try dsimp only at hSw); go_simp); all_goals with_reducible rfl
          try go_frame
          refine tk (oi := ⟨_, _, _, _, _, _⟩) (v := ?_) 7 rfl (by kernel_rfl) (fun _ _ _ h => h) (.inl ⟨by rfl, ?_⟩) (by assumption) ?_; rotate_left
          · (intro wS hSw; (try dsimp only at hSw); go_simp); all_goals with_reducible rfl
          try go_frame
          refine tk (oi := ⟨_, _, _, _, _, _⟩) (v := ?_) 8 rfl (by kernel_rfl) (fun _ _ _ h => h) (.inl ⟨by rfl, ?_⟩) (by assumption) ?_; rotate_left
          · (intro wS hSw; (try dsimp only at hSw); go_simp); all_goals with_reducible rfl
          try go_frame
          refine wpAnyH_done (by kernel_rfl) ?_ _
          clear hneq hHeld
          go_wp2_with fail
          go_roundw
          case rel => exact ⟨k + 1, by omega, by go_num, HIN, hbel.drew⟩
          case measure => simp [intOf]; omega
        · have HIN : Hid (R = false) := by
            show _ = _
            rw [← hin']
            have : a ≠ b := fun h => he (by rw [h]; exact ⟨rfl, rfl⟩)
            simp [this]
          have he' : (decide (a.name = b.name) && decide (a.value = b.value)) = false := by
            cases h : (decide (a.name = b.name) && decide (a.value = b.value)) with
            | false => rfl
            | true => exact absurd (by simpa using h) he
          simp only [he', Bool.not_false] at hneq
          clear he he' hin' hin
          go_wp2_with fail
          refine wp_region_held_drew (S := fun w' => w'.cell? (ad.add (k * 2)) = some (.string ⟨a.name.toArray⟩) ∧ w'.cell? ⟨(ad.add (k * 2)).block, (ad.add (k * 2)).off + 1, none⟩ = some (.string ⟨a.value.toArray⟩) ∧ w'.cell? (bd.add (k * 2)) = some (.string ⟨b.name.toArray⟩) ∧ w'.cell? ⟨(bd.add (k * 2)).block, (bd.add (k * 2)).off + 1, none⟩ = some (.string ⟨b.value.toArray⟩)) (by kernel_rfl) HS.out (fun hHeld => ?_)
          refine tk (oi := ⟨_, _, _, _, _, _⟩) (v := ?_) 0 rfl (by kernel_rfl) (fun _ _ _ h => h) (.inl ⟨by rfl, ?_⟩) (by assumption) ?_; rotate_left
          · (intro wS hSw; (try dsimp only at hSw); go_simp); all_goals with_reducible rfl
          try go_frame
          refine tk (oi := ⟨_, _, _, _, _, _⟩) (v := ?_) 1 rfl (by kernel_rfl) (fun _ _ _ h => h) (.inl ⟨by rfl, ?_⟩) (by assumption) ?_; rotate_left
          · (intro wS hSw; (try dsimp only at hSw); go_simp); all_goals with_reducible rfl
          try go_frame
          refine tk (oi := ⟨_, _, _, _, _, _⟩) (v := ?_) 2 rfl (by kernel_rfl) (fun _ _ _ h => h) (.inl ⟨by rfl, ?_⟩) (by assumption) ?_; rotate_left
          · (intro wS hSw; (try dsimp only at hSw); go_simp); all_goals with_reducible rfl
          try go_frame
          refine tk (oi := ⟨_, _, _, _, _, _⟩) (v := ?_) 3 rfl (by kernel_rfl) (fun _ _ _ h => h) (.inl ⟨by rfl, ?_⟩) (by assumption) ?_; rotate_left
          · (intro wS hSw; (try dsimp only at hSw); go_simp); all_goals with_reducible rfl
          try go_frame
          refine tk (oi := ⟨_, _, _, _, _, _⟩) (v := ?_) 4 rfl (by kernel_rfl) (fun _ _ _ h => h) (.inl ⟨by rfl, ?_⟩) (by assumption) ?_; rotate_left
          · (intro wS hSw; (try dsimp only at hSw); go_simp); all_goals with_reducible rfl
          try go_frame
          refine tk (oi := ⟨_, _, _, _, _, _⟩) (v := ?_) 5 rfl (by kernel_rfl) (fun _ _ _ h => h) (.inl ⟨by rfl, ?_⟩) (by assumption) ?_; rotate_left
          · (intro wS hSw; (try dsimp only at hSw); go_simp); all_goals with_reducible rfl
          try go_frame
          refine tk (oi := ⟨_, _, _, _, _, _⟩) (v := ?_) 6 rfl (by kernel_rfl) (fun _ _ _ h => h) (.inl ⟨by rfl, ?_⟩) (by assumption) ?_; rotate_left
          · (intro wS hSw; (try dsimp only at hSw); go_simp); all_goals with_reducible rfl
          try go_frame
          refine tk (oi := ⟨_, _, _, _, _, _⟩) (v := ?_) 7 rfl (by kernel_rfl) (fun _ _ _ h => h) (.inl ⟨by rfl, ?_⟩) (by assumption) ?_; rotate_left
          · (intro wS hSw; (try dsimp only at hSw); go_simp); all_goals with_reducible rfl
          try go_frame
          refine tk (oi := ⟨_, _, _, _, _, _⟩) (v := ?_) 8 rfl (by kernel_rfl) (fun _ _ _ h => h) (.inl ⟨by rfl, ?_⟩) (by assumption) ?_; rotate_left
          · (intro wS hSw; (try dsimp only at hSw); go_simp); all_goals with_reducible rfl
          try go_frame
          refine wpAnyH_done (by kernel_rfl) ?_ _
          clear hneq hHeld
          go_wp2_with fail
          go_ret
          exact ⟨by rw [HIN.out]; rfl, hbel.drew⟩
      · have HIN : Hid (R = true) := by
          show _ = _
          have := HNE.out
          rw [← hin.out, List.drop_eq_nil_of_le (by omega), List.drop_eq_nil_of_le (by omega)]; rfl
        have hk' : k = l.length := by omega
        subst hk'
        clear hin hlt hk
        go_wp2_with fail
        go_ret
        exact ⟨by rw [HIN.out]; rfl, hbel⟩
  · have hv : Hid (R = false) := by
      show _ = _
      rw [← hR.out]
      simp only [decide_eq_false_iff_not]
      intro h; rw [h] at hne; exact hne rfl
    have t0 : ((l.length : Int) != m.length) = true := by simp; omega
    clear hne hR
    go_enter Try.func39, Try.ntmps39
    go_wp2_with fail
    go_ret
    exact ⟨by rw [hv.out]; rfl, Below.refl _ _⟩

set_option maxRecDepth 100000 in
set_option maxHeartbeats 2000000 in
theorem EqualA_any (l m : List AttrD) (A B : Option Addr) (c d : Nat) (w : World) (hA : AttrsAt w w.heap.size A l) (hB : AttrsAt w w.heap.size B m) (hl : l.length ≤ 1000000000) (hm : m.length ≤ 1000000000) (R : Bool) (hR : Hid (decide (l = m) = R)) :
    Calls Try.prog 61 #[.slice A l.length c, .slice B m.length d] w (Ret w (.bool R)) := by
  have HA := Lib.hid hA
  have HB := Lib.hid hB
  clear hA hB
  by_cases hne : l.length = m.length
  · have hR0 : Hid (decide (l.drop 0 = m.drop 0) = R) := hR
    have t0 : ((l.length : Int) != m.length) = false := by simp [hne]
    have HNE := Lib.hid hne
    clear hne hR
    go_enter Try.func61, Try.ntmps61
    go_wp2_with fail
    go_loopw [13] (fun i wr => ∃ (k : Nat), k ≤ l.length ∧ i = .int .i64 k ∧ Hid (decide (l.drop k = m.drop k) = R) ∧ Below w.heap.size w wr) (fun i _ => l.length - (intOf i).toNat)
    case atStart => exact ⟨0, Nat.zero_le _, rfl, hR0, Below.refl _ _⟩
    case round =>
      obtain ⟨k, hk, rfl, hin, hbel⟩ := hrel
      have hzr := hbel.size
      by_cases hlt : k < l.length
      · have hlm : k < m.length := by have := HNE.out; omega
        obtain ⟨a, ha⟩ : ∃ a, Hid (l[k]? = some a) := ⟨l[k], List.getElem?_eq_getElem _⟩
        obtain ⟨b, hb⟩ : ∃ b, Hid (m[k]? = some b) := ⟨m[k], List.getElem?_eq_getElem _⟩
        obtain ⟨ad, hAd, hab, hac⟩ := HA.out (by omega)
        obtain ⟨bd, hBd, hbb, hbc⟩ := HB.out (by omega)
        subst hAd; subst hBd
        have hlt' : (k : Int) < l.length := by omega
        have hlm' : (k : Int) < m.length := by omega
        have hk0 : (0 : Int) ≤ (k : Int) := by omega
        have HS : Hid (wr.drew.cell? (ad.add (k * 2)) = some (.string ⟨a.name.toArray⟩) ∧ wr.drew.cell? ⟨(ad.add (k * 2)).block, (ad.add (k * 2)).off + 1, none⟩ = some (.string ⟨a.value.toArray⟩) ∧ wr.drew.cell? (bd.add (k * 2)) = some (.string ⟨b.name.toArray⟩) ∧ wr.drew.cell? ⟨(bd.add (k * 2)).block, (bd.add (k * 2)).off + 1, none⟩ = some (.string ⟨b.value.toArray⟩)) := by
          have hb' := hbel.drew
          refine ⟨?_, ?_, ?_, ?_⟩
          · rw [hb'.cell (by rw [block_of_add]; exact hab)]; exact (hac k a ha.out).1
          · rw [hb'.cell (by show (ad.add _).block < _; rw [block_of_add]; exact hab)]; exact (hac k a ha.out).2
          · rw [hb'.cell (by rw [block_of_add]; exact hbb)]; exact (hbc k b hb.out).1
          · rw [hb'.cell (by show (bd.add _).block < _; rw [block_of_add]; exact hbb)]; exact (hbc k b hb.out).2
        clear hac hbc
        have hin' := hin.out
        rw [drop_cons ha.out, drop_cons hb.out] at hin'
        have hneq := fun w' => attr_neq a.name a.value b.name b.value w'
        by_cases he : a.name = b.name ∧ a.value = b.value
        · have HIN : Hid (decide (l.drop (k + 1) = m.drop (k + 1)) = R) := by
            show _ = _
            rw [← hin']
            have : a = b := by cases a; cases b; simp_all
            simp [this]
          have he' : (decide (a.name = b.name) && decide (a.value = b.value)) = true := by simpa using he
          simp only [he', Bool.not_true] at hneq
          clear he he' hin' hin
          go_wp2_with fail
          refine wp_region_held_drew (S := fun w' => w'.cell? (ad.add (k * 2)) = some (.string ⟨a.name.toArray⟩) ∧ w'.cell? ⟨(ad.add (k * 2)).block, (ad.add (k * 2)).off + 1, none⟩ = some (.string ⟨a.value.toArray⟩) ∧ w'.cell? (bd.add (k * 2)) = some (.string ⟨b.name.toArray⟩) ∧ w'.cell? ⟨(bd.add (k * 2)).block, (bd.add (k * 2)).off + 1, none⟩ = some (.string ⟨b.value.toArray⟩)) (by kernel_rfl) HS.out (fun hHeld => ?_)
          refine tk (oi := ⟨_, _, _, _, _, _⟩) (v := ?_) 0 rfl (by kernel_rfl) (fun _ _ _ h => h) (.inl ⟨by rfl, ?_⟩) (by assumption) ?_; rotate_left
          · (intro wS hSw; (try dsimp only at hSw); go_simp); all_goals with_reducible rfl
          try go_frame
          refine tk (oi := ⟨_, _, _, _, _, _⟩) (v := ?_) 1 rfl (by kernel_rfl) (fun _ _ _ h => h) (.inl ⟨by rfl, ?_⟩) (by assumption) ?_; rotate_left
          · (intro wS hSw; (try dsimp only at hSw); go_simp); all_goals with_reducible rfl
          try go_frame
          refine tk (oi := ⟨_, _, _, _, _, _⟩) (v := ?_) 2 rfl (by kernel_rfl) (fun _ _ _ h => h) (.inl ⟨by rfl, ?_⟩) (by assumption) ?_; rotate_left
          · (intro wS hSw; (try dsimp only at hSw); go_simp); all_goals with_reducible rfl
          try go_frame
          refine tk (oi := ⟨_, _, _, _, _, _⟩) (v := ?_) 3 rfl (by kernel_rfl) (fun _ _ _ h => h) (.inl ⟨by rfl, ?_⟩) (by assumption) ?_; rotate_left
          · (intro wS hSw; (try dsimp only at hSw); go_simp); all_goals with_reducible rfl
          try go_frame
          refine tk (oi := ⟨_, _, _, _, _, _⟩) (v := ?_) 4 rfl (by kernel_rfl) (fun _ _ _ h => h) (.inl ⟨by rfl, ?_⟩) (by assumption) ?_; rotate_left
          · (intro wS hSw; (try dsimp only at hSw); go_simp); all_goals with_reducible rfl
          try go_frame
          refine tk (oi := ⟨_, _, _, _, _, _⟩) (v := ?_) 5 rfl (by kernel_rfl) (fun _ _ _ h => h) (.inl ⟨by rfl, ?_⟩) (by assumption) ?_; rotate_left
          · (intro wS hSw; (try dsimp only at hSw); go_simp); all_goals with_reducible rfl
          try go_frame
          refine tk (oi := ⟨_, _, _, _, _, _⟩) (v := ?_) 6 rfl (by kernel_rfl) (fun _ _ _ h => h) (.inl ⟨by rfl, ?_⟩) (by assumption) ?_; rotate_left
          · (intro wS hSw; (try dsimp only at hSw); go_simp); all_goals with_reducible rfl
          try go_frame
          refine tk (oi := ⟨_, _, _, _, _, _⟩) (v := ?_) 7 rfl (by kernel_rfl) (fun _ _ _ h => h) (.inl ⟨by rfl, ?_⟩) (by assumption) ?_; rotate_left
          · (intro wS hSw; (try dsimp only at hSw); go_simp); all_goals with_reducible rfl
          try go_frame
          refine tk (oi := ⟨_, _, _, _, _, _⟩) (v := ?_) 8 rfl (by kernel_rfl) (fun _ _ _ h => h) (.inl ⟨by rfl, ?_⟩) (by assumption) ?_; rotate_left
          · (intro wS hSw; (try dsimp only at hSw); go_simp); all_goals with_reducible rfl
          try go_frame
          refine wpAnyH_done (by kernel_rfl) ?_ _
          clear hneq hHeld
          go_wp2_with fail
          go_roundw
          case rel => exact ⟨k + 1, by omega, by go_num, HIN, hbel.drew⟩
          case measure => simp [intOf]; omega
        · have HIN : Hid (R = false) := by
            show _ = _
            rw [← hin']
            have : a ≠ b := fun h => he (by rw [h]; exact ⟨rfl, rfl⟩)
            simp [this]
          have he' : (decide (a.name = b.name) && decide (a.value = b.value)) = false := by
            cases h : (decide (a.name = b.name) && decide (a.value = b.value)) with
            | false => rfl
            | true => exact absurd (by simpa using h) he
          simp only [he', Bool.not_false] at hneq
          clear he he' hin' hin
          go_wp2_with fail
          refine wp_region_held_drew (S := fun w' => w'.cell? (ad.add (k * 2)) = some (.string ⟨a.name.toArray⟩) ∧ w'.cell? ⟨(ad.add (k * 2)).block, (ad.add (k * 2)).off + 1, none⟩ = some (.string ⟨a.value.toArray⟩) ∧ w'.cell? (bd.add (k * 2)) = some (.string ⟨b.name.toArray⟩) ∧ w'.cell? ⟨(bd.add (k * 2)).block, (bd.add (k * 2)).off + 1, none⟩ = some (.string ⟨b.value.toArray⟩)) (by kernel_rfl) HS.out (fun hHeld => ?_)
          refine tk (oi := ⟨_, _, _, _, _, _⟩) (v := ?_) 0 rfl (by kernel_rfl) (fun _ _ _ h => h) (.inl ⟨by rfl, ?_⟩) (by assumption) ?_; rotate_left
          · (intro wS hSw; (try dsimp only at hSw); go_simp); all_goals with_reducible rfl
          try go_frame
          refine tk (oi := ⟨_, _, _, _, _, _⟩) (v := ?_) 1 rfl (by kernel_rfl) (fun _ _ _ h => h) (.inl ⟨by rfl, ?_⟩) (by assumption) ?_; rotate_left
          · (intro wS hSw; (try dsimp only at hSw); go_simp); all_goals with_reducible rfl
          try go_frame
          refine tk (oi := ⟨_, _, _, _, _, _⟩) (v := ?_) 2 rfl (by kernel_rfl) (fun _ _ _ h => h) (.inl ⟨by rfl, ?_⟩) (by assumption) ?_; rotate_left
          · (intro wS hSw; (try dsimp only at hSw); go_simp); all_goals with_reducible rfl
          try go_frame
          refine tk (oi := ⟨_, _, _, _, _, _⟩) (v := ?_) 3 rfl (by kernel_rfl) (fun _ _ _ h => h) (.inl ⟨by rfl, ?_⟩) (by assumption) ?_; rotate_left
          · (intro wS hSw; (try dsimp only at hSw); go_simp); all_goals with_reducible rfl
          try go_frame
          refine tk (oi := ⟨_, _, _, _, _, _⟩) (v := ?_) 4 rfl (by kernel_rfl) (fun _ _ _ h => h) (.inl ⟨by rfl, ?_⟩) (by assumption) ?_; rotate_left
          · (intro wS hSw; (try dsimp only at hSw); go_simp); all_goals with_reducible rfl
          try go_frame
          refine tk (oi := ⟨_, _, _, _, _, _⟩) (v := ?_) 5 rfl (by kernel_rfl) (fun _ _ _ h => h) (.inl ⟨by rfl, ?_⟩) (by assumption) ?_; rotate_left
          · (intro wS hSw; (try dsimp only at hSw); go_simp); all_goals with_reducible rfl
          try go_frame
          refine tk (oi := ⟨_, _, _, _, _, _⟩) (v := ?_) 6 rfl (by kernel_rfl) (fun _ _ _ h => h) (.inl ⟨by rfl, ?_⟩) (by assumption) ?_; rotate_left
          · (intro wS hSw; (try dsimp only at hSw); go_simp); all_goals with_reducible rfl
          try go_frame
          refine tk (oi := ⟨_, _, _, _, _, _⟩) (v := ?_) 7 rfl (by kernel_rfl) (fun _ _ _ h => h) (.inl ⟨by rfl, ?_⟩) (by assumption) ?_; rotate_left
          · (intro wS hSw; (try dsimp only at hSw); go_simp); all_goals with_reducible rfl
          try go_frame
          refine tk (oi := ⟨_, _, _, _, _, _⟩) (v := ?_) 8 rfl (by kernel_rfl) (fun _ _ _ h => h) (.inl ⟨by rfl, ?_⟩) (by assumption) ?_; rotate_left
          · (intro wS hSw; (try dsimp only at hSw); go_simp); all_goals with_reducible rfl
          try go_frame
          refine wpAnyH_done (by kernel_rfl) ?_ _
          clear hneq hHeld
          go_wp2_with fail
          go_ret
          exact ⟨by rw [HIN.out]; rfl, hbel.drew⟩
      · have HIN : Hid (R = true) := by
          show _ = _
          have := HNE.out
          rw [← hin.out, List.drop_eq_nil_of_le (by omega), List.drop_eq_nil_of_le (by omega)]; rfl
        have hk' : k = l.length := by omega
        subst hk'
        clear hin hlt hk
        go_wp2_with fail
        go_ret
        exact ⟨by rw [HIN.out]; rfl, hbel⟩
  · have hv : Hid (R = false) := by
      show _ = _
      rw [← hR.out]
      simp only [decide_eq_false_iff_not]
      intro h; rw [h] at hne; exact hne rfl
    have t0 : ((l.length : Int) != m.length) = true := by simp; omega
    clear hne hR
    go_enter Try.func61, Try.ntmps61
    go_wp2_with fail
    go_ret
    exact ⟨by rw [hv.out]; rfl, Below.refl _ _⟩
end Go.Proofs.Ythifddkmbjnncaa

/-
  The reader of tokens: the walk of has. slices.ContainsFunc at attributes, laid by hand.
-/
namespace Go.Proofs
open Go.Shelf Go.RowKit
def Try.laysH8_ren : Go.Shelf.Ren := ⟨fun | 6 => 139 | 8 => 117 | n => n, fun | 0 => 0 | 3 => 3 | 4 => 4 | 22 => 31 | 23 => 44 | 25 => 137 | n => n, fun | n => n⟩
theorem Try.laysH8 : Go.Proofs.SlLaysH0.n8 Try.prog Try.laysH8_ren := {
  mixed := by kernel_rfl
  f6 := ⟨ "slices.IndexFunc[[]incunable/api.Attr,incunable/api.Attr]", by decide, Try.func139.trans (congrArg some (by kernel_rfl))⟩
  f8 := ⟨ "slices.ContainsFunc[[]incunable/api.Attr,incunable/api.Attr]", by decide, Try.func117.trans (congrArg some (by kernel_rfl))⟩
  t0 := Try.underlying0
  a0 := Try.isAgg0
  z0 := Try.sizeOf0
  v0 := Try.zeroValue0
  t3 := Try.underlying3
  a3 := Try.isAgg3
  z3 := Try.sizeOf3
  v3 := Try.zeroValue3
  t4 := Try.underlying4
  a4 := Try.isAgg4
  z4 := Try.sizeOf4
  v4 := Try.zeroValue4
  t22 := Try.underlying31
  a22 := Try.isAgg31
  z22 := Try.sizeOf31
  v22 := Try.zeroValue31
  t25 := Try.underlying137
  a25 := Try.isAgg137
  z25 := Try.sizeOf137
  v25 := Try.zeroValue137 }
end Go.Proofs
namespace Go.Proofs.Ythifddkmbjnncaa
open Go.RowKit Go.Shelf

/-- the closure of has -/
theorem has1_any (n : List UInt8) (g : Nat) (w : World) (hg : g < w.heap.size) (hcell : w.cell? ⟨g, 0, none⟩ = some (.string ⟨n.toArray⟩)) :
    PredBelow Try.prog 118 #[.pointer (some ⟨g, 0, none⟩)] (fun a : AttrD => .agg (cellsA a).toArray) (fun a => decide (a.name = n)) w := fun W a hb => by
  have hc : W.cell? ⟨g, 0, none⟩ = some (.string ⟨n.toArray⟩) := (hb.cell (p := ⟨g, 0, none⟩) hg).trans hcell
  have hBW : g < W.heap.size := Nat.lt_of_lt_of_le hg hb.size
  have hne : g ≠ W.heap.size := by omega
  have hbe := beq_str a.name n
  show Calls Try.prog 118 #[.agg #[.string ⟨a.name.toArray⟩, .string ⟨a.value.toArray⟩], .pointer (some ⟨g, 0, none⟩)] W _
  go_enter Try.func118, Try.ntmps118
  go_wp2_with fail
  go_ret
  exact ⟨ret_bool (by rw [Bool.eq_iff_iff, beq_iff_eq, decide_eq_true_iff]), hb.alloc hb.size _⟩

set_option maxHeartbeats 1000000 in
/-- at no attribute: whatever the predicate -/
theorem IndexA_none (p : Option Addr) (c : Nat) (fv : Value) (w : World) :
    Calls Try.prog 139 #[.slice p 0 c, fv] w fun e w' => e = .returned (.int .i64 (-1)) ∧ w = w' := by
  go_enter Try.func139, Try.ntmps139
  go_wp2_with fail
  refine wp_loop_rounds 1 ?_
  rw [rounds_succ]
  go_wp2_with fail
  go_ret
  exact ⟨rfl, rfl⟩
set_option maxHeartbeats 1000000 in
theorem ContainsA_none (p : Option Addr) (c : Nat) (fv : Value) (w : World) :
    Calls Try.prog 117 #[.slice p 0 c, fv] w fun e w' => e = .returned (.bool false) ∧ w = w' := by
  go_enter Try.func117, Try.ntmps117
  go_wp2_with fail
  refine (IndexA_none p c fv w).mono ?_
  rintro e w' ⟨rfl, rfl⟩
  go_wp2_with fail
  go_ret
  exact ⟨rfl, rfl⟩

theorem ContainsA_any (l : List AttrD) (A : Option Addr) (c B : Nat) (n : List UInt8) (g : Nat) (w : World) (hA : AttrsOwn w B A c l) (hl : l.length ≤ 1000) (hg : g < w.heap.size) (hcell : w.cell? ⟨g, 0, none⟩ = some (.string ⟨n.toArray⟩)) (v : Bool) (hv : Hid (l.any (fun a => decide (a.name = n)) = v)) :
    Calls Try.prog 117 #[.slice A l.length c, .func (.func 118) #[] #[.pointer (some ⟨g, 0, none⟩)]] w fun e w' => e = .returned (.bool v) ∧ Below w.heap.size w w' := by
  cases l with
  | nil =>
    have hv' : v = false := hv.out.symm
    subst hv'
    exact (ContainsA_none A c _ w).mono fun e w' ⟨h1, h2⟩ => ⟨h1, by subst h2; exact Below.refl _ _⟩
  | cons a r =>
    obtain ⟨gb, rfl, _, hgb, _, hc⟩ := own_flat cellsA cellsA_length hA (by simp)
    have eg : ∀ args w, (callFunc 118 args).run Try.prog w = .ok (.enter 118 args) w := enters_of Try.func118 (by kernel_rfl) rfl
    have hcon := AnyQ.slices_ContainsFunc Try.laysH8 2 Try.isAgg44 Try.sizeOf44 cellsA cellsA_length (fun a => decide (a.name = n)) 118 #[.pointer (some ⟨g, 0, none⟩)] eg gb 0 (a :: r).length c (a :: r) w (has1_any n g w hg hcell) (Nat.le_refl _) (by omega) hgb (fun j hj i u hi => by
      have hj' : (a :: r)[j]? = some (a :: r)[j]! := by rw [List.getElem?_eq_getElem hj, getElem!_pos (a :: r) j hj]
      have := hc j _ i u hj' hi
      rw [add_zero_block] at this
      rw [Nat.zero_add]
      exact this)
    rw [List.take_length, hv.out] at hcon
    exact hcon

set_option maxRecDepth 100000 in
set_option maxHeartbeats 1000000 in
theorem hasA_any (b B : Nat) (r : Rdr) (w : World) (h : RdAt w b r) (l : List AttrD) (hn : r.n = l.length) (hA : AttrsOwn w B r.A r.c l) (hl : l.length ≤ 1000) (n : List UInt8) (v : Bool) (hv : Hid (l.any (fun a => decide (a.name = n)) = v)) :
    Calls Try.prog 98 #[.pointer (some ⟨b, 0, none⟩), .string ⟨n.toArray⟩] w (Ret w (.bool v)) := by
  obtain ⟨_, _, _, _, _, _, h6, _⟩ := h.all
  rw [hn] at h6
  have hb := h.lt
  have hne : b ≠ w.heap.size := by omega
  have hA1 : AttrsOwn (w.alloc (.cells #[.string ⟨n.toArray⟩] 9)) B r.A r.c l := World.ownsRow.alloc hA _
  have HA := Lib.hid hA1
  clear hA1 hA
  go_enter Try.func98, Try.ntmps98
  go_wp2_with fail
  refine (ContainsA_any l r.A r.c B n w.heap.size _ HA.out hl (by simp) (by rw [World.cell?_alloc_at _ _ _ _ (by simp)]; rfl) v hv).mono ?_
  rintro e w2 ⟨rfl, hb2⟩
  go_wp2_with fail
  go_ret
  exact ⟨rfl, ((Below.refl _ w).alloc (Nat.le_refl _) _).trans (hb2.mono (by simp))⟩
end Go.Proofs.Ythifddkmbjnncaa

/-
  The walk of parse.parts.
-/
namespace Go.Proofs.Ythifddkmbjnncaa
open Go.RowKit

set_option maxRecDepth 100000 in
set_option maxHeartbeats 2000000 in
theorem parts_any (x : ItemD) (A : Option Addr) (c : Nat) (w : World) (hA : AttrsAt w w.heap.size A x.attrs) (hs : SmallItem x) (V : Int) (hV : Hid (partsE x = V)) :
    Calls Try.prog 51 #[.agg (itemVal x A c)] w (Ret w (.int .i64 V)) := by
  have HSM := Lib.hid hs
  obtain ⟨hs1, hs2, hs3, hs4, hs5⟩ := hs
  have HS4 := Lib.hid hs4
  have HA := Lib.hid hA
  clear hs4 hA hs5
  have hV' := hV.out
  unfold partsE at hV'
  clear hV
  by_cases h1 : x.kind = 2 ∧ x.name = [] ∧ x.attrs = []
  · rw [if_pos h1] at hV'
    obtain ⟨k1, k2, k3⟩ := h1
    have HV := Lib.hid hV'
    have e1 : (x.kind == 2) = true := by rw [k1]; rfl
    have e2 : (x.name == []) = true := by rw [k2]; rfl
    have e3 : x.attrs.length = 0 := by rw [k3]; rfl
    unfold itemVal strV
    rw [k2, e3, k1]
    clear k1 k2 k3 e1 e2 e3 hV'
    go_enter Try.func51, Try.ntmps51
    go_wp2_with fail
    refine (chars_l _ _ hs2 _ HV).mono ?_; rintro e w2 ⟨rfl, hb2⟩
    go_wp2_with fail
    go_ret
    exact ⟨rfl, ((Below.refl _ w).alloc (Nat.le_refl _) _).trans (hb2.mono (by simp))⟩
  · rw [if_neg h1] at hV'
    by_cases h2 : x.kind ≠ 1 ∨ x.text ≠ []
    · rw [if_pos h2] at hV'
      have hv : Hid (V = 68) := hV'.symm
      clear hV'
      by_cases k2 : x.kind = 2
      · have e1 : (x.kind == 2) = true := by simp [k2]
        have e4 : (x.kind != 1) = true := by simp [k2]
        by_cases k3 : x.name = []
        · have e2 : (x.name == []) = true := by simp [k3]
          have e3 : ((x.attrs.length : Int) == 0) = false := by
            have : x.attrs ≠ [] := fun h => h1 ⟨k2, k3, h⟩
            have : x.attrs.length ≠ 0 := fun h => this (List.eq_nil_of_length_eq_zero h)
            simp; omega
          clear h1 h2 k2 k3
          unfold itemVal strV
          go_enter Try.func51, Try.ntmps51
          go_wp2_with fail
          go_ret
          exact ⟨by rw [hv.out]; rfl, (Below.refl _ w).alloc (Nat.le_refl _) _⟩
        · have e2 : (x.name == []) = false := by simp [k3]
          clear h1 h2 k2 k3
          unfold itemVal strV
          go_enter Try.func51, Try.ntmps51
          go_wp2_with fail
          go_ret
          exact ⟨by rw [hv.out]; rfl, (Below.refl _ w).alloc (Nat.le_refl _) _⟩
      · have e1 : (x.kind == 2) = false := by simp [k2]
        by_cases k3 : x.kind = 1
        · have e4 : (x.kind != 1) = false := by simp [k3]
          have e5 : (x.text == []) = false := by
            have : x.text ≠ [] := h2.resolve_left (fun h => h k3)
            simp [this]
          clear h1 h2 k2 k3
          unfold itemVal strV
          go_enter Try.func51, Try.ntmps51
          go_wp2_with fail
          go_ret
          exact ⟨by rw [hv.out]; rfl, (Below.refl _ w).alloc (Nat.le_refl _) _⟩
        · have e4 : (x.kind != 1) = true := by simp [k3]
          clear h1 h2 k2 k3
          unfold itemVal strV
          go_enter Try.func51, Try.ntmps51
          go_wp2_with fail
          go_ret
          exact ⟨by rw [hv.out]; rfl, (Below.refl _ w).alloc (Nat.le_refl _) _⟩
    · rw [if_neg h2] at hV'
      have k1 : x.kind = 1 := Decidable.of_not_not fun h => h2 (.inl h)
      have k5 : x.text = [] := Decidable.of_not_not fun h => h2 (.inr h)
      have e1 : (x.kind == 2) = false := by simp [k1]
      have e4 : (x.kind != 1) = false := by simp [k1]
      have e5 : (x.text == []) = true := by simp [k5]
      clear h1 h2 k1 k5
      obtain ⟨E, hE⟩ : ∃ E, Hid (namesE x = E) := ⟨_, rfl⟩
      rw [hE.out] at hV'
      have HV := Lib.hid hV'
      clear hV'
      have HN : ∀ w1 : World, Below w.heap.size w w1 → Calls Try.prog 83 #[.agg (itemVal x A c)] w1 (Ret w1 (.int .i64 E)) :=
        fun w1 hb => names_any x A c w1 ((HA.out.below hb).more hb.size) HSM.out E hE
      have HNH := Lib.hid HN
      clear HN
      unfold itemVal strV at *
      go_enter Try.func51, Try.ntmps51
      go_wp2_with fail
      obtain ⟨w1, hw1⟩ : ∃ w1, Hid (w1 = w.alloc (.cells #[.int .i64 x.level, .int .i64 x.kind, .string ⟨x.name.toArray⟩, .string ⟨x.text.toArray⟩, .slice A x.attrs.length c] 50)) := ⟨_, rfl⟩
      have hbw1 : Below w.heap.size w w1 := by rw [hw1.out]; exact (Below.refl _ w).alloc (Nat.le_refl _) _
      have hz1 : w.heap.size < w1.heap.size := by rw [hw1.out]; simp
      have hcell1 : Hid (w1.cell? ⟨w.heap.size, 4, none⟩ = some (.slice A x.attrs.length c)) := by
        show _ = _
        rw [hw1.out, World.cell?_alloc_at _ _ _ _ (by simp)]; rfl
      rw [← hw1.out]
      refine (HNH.out w1 hbw1).mono ?_; rintro e w2 ⟨rfl, hb2⟩
      have hz2 := hb2.size
      have hc4 : w2.cell? ⟨w.heap.size, 4, none⟩ = some (.slice A x.attrs.length c) := by
        rw [hb2.cell (p := ⟨w.heap.size, 4, none⟩) hz1]; exact hcell1.out
      go_wp2_with fail
      go_loopw [3, 38] (fun ev i wr => ∃ (k : Nat) (f : Int), k ≤ x.attrs.length ∧ i = .int .i64 k ∧ ev = .int .i64 f ∧ Hid ((if f = 0 then valuesE (x.attrs.drop k) else f) = V) ∧ Below w2.heap.size w2 wr) (fun _ i _ => x.attrs.length - (intOf i).toNat)
      case atStart => exact ⟨0, E, Nat.zero_le _, rfl, rfl, HV, Below.refl _ _⟩
      case round =>
        obtain ⟨k, f, hk, rfl, rfl, hin, hbel⟩ := hrel
        have hzr := hbel.size
        have hbwr : Below w.heap.size w wr := (hbw1.trans (hb2.mono (by omega))).trans (hbel.mono (by omega))
        by_cases hlt : k < x.attrs.length
        · obtain ⟨a, ha⟩ : ∃ a, Hid (x.attrs[k]? = some a) := ⟨x.attrs[k], List.getElem?_eq_getElem _⟩
          obtain ⟨ad, hAd, hbl, hcs⟩ := (HA.out.below hbwr) (by omega)
          obtain ⟨hc0, hc1⟩ := hcs k a ha.out
          unfold strV at hc0 hc1
          clear hcs
          have hin' := hin.out
          rw [drop_cons ha.out, valuesE] at hin'
          have hnm := (HS4.out k a ha.out).2
          subst hAd
          have hlt' : (k : Int) < x.attrs.length := by omega
          by_cases hf : f = 0
          · rw [if_pos hf] at hin'
            subst hf
            obtain ⟨q, hq⟩ : ∃ q, Hid (charsE a.value = q) := ⟨_, rfl⟩
            rw [hq.out] at hin'
            have hv : Hid ((if q = 0 then valuesE (x.attrs.drop (k + 1)) else q) = V) := hin'
            clear hin'
            go_wp2_with fail
            refine (chars_l _ _ hnm _ hq).mono ?_; rintro e w3 ⟨rfl, hb3⟩
            have hz3 := hb3.size
            simp only [World.size_alloc] at hz3
            go_wp2_with fail
            go_roundw
            case rel => exact ⟨k + 1, q, by omega, by go_num, rfl, hv, (hbel.alloc (by omega) _).trans (hb3.mono (by simp; omega))⟩
            case measure => simp [intOf]; omega
          · rw [if_neg hf] at hin'
            have hv : Hid ((if f = 0 then valuesE (x.attrs.drop (k + 1)) else f) = V) := by show _ = _; rw [if_neg hf]; exact hin'
            clear hin'
            have ef : (f == 0) = false := by simp [hf]
            clear hf
            go_wp2_with fail
            go_roundw
            case rel => exact ⟨k + 1, f, by omega, by go_num, rfl, hv, hbel.alloc (by omega) _⟩
            case measure => simp [intOf]; omega
        · have hk' : k = x.attrs.length := by omega
          have hv : Hid (V = f) := by
            show _ = _
            rw [← hin.out, List.drop_eq_nil_of_le (by omega)]
            simp only [valuesE]
            split <;> simp_all
          subst hk'
          go_wp2_with fail
          go_ret
          exact ⟨by rw [hv.out]; rfl, hbwr⟩
end Go.Proofs.Ythifddkmbjnncaa
