/-
  The walks of scribe.tag and of ref05.tag.
-/
import Derived.Test.YtiopijjlkmpikaaPrintPlain
import Derived.Test.YtiopijjlkmpikaaItems
import Derived.Test.YtiopijjlkmpikaaNames
import Derived.Test.YtiopijjlkmpikaaREsc
namespace Go.Proofs.Ytiopijjlkmpikaa
open Go.RowKit

theorem strCells_bytes (s : ByteArray) : Lib.strCells s = Lib.byteCells s.data.toList := rfl

/-- (*strings.Builder).WriteString, with what it leaves alone. -/
theorem WriteK (B b : Nat) (bs : List Value) (s : ByteArray) (w : World) (h : Lib.IsBuilderF 40 5 B b bs w) (hlen : bs.length + s.size ≤ 140737488355328) (hBw : B ≤ w.heap.size) :
    Calls Try.prog 16 #[.pointer (some ⟨b, 0, none⟩), .string s] w fun e w' => e = .returned (.tuple #[.int .i64 s.size, .nilIface]) ∧ (Lib.BuilderAtF 40 5 B b (.pointer (some ⟨b, 0, none⟩)) (bs ++ Lib.strCells s) w' ∧ Below B w w' ∧ Lib.OthersKept 5 (some b) w w') := Any.Builder_WriteString_k Try.lays166 Try.Builder_Extra_166 B b bs s w h hlen hBw
theorem StringK (B b : Nat) (l : List UInt8) (w : World) (h : Lib.IsBuilderF 40 5 B b (Lib.byteCells l) w) (hBw : B ≤ w.heap.size) :
    Calls Try.prog 21 #[.pointer (some ⟨b, 0, none⟩)] w fun e w' => e = .returned (.string ⟨l.toArray⟩) ∧ (Lib.IsBuilderF 40 5 B b (Lib.byteCells l) w' ∧ Below B w w' ∧ Lib.OthersKept 5 (some b) w w') := Any.Builder_String_any_k Try.lays169 Try.Builder_Extra_169 B b l w h hBw

theorem Value_l (s : List UInt8) (w : World) (hs : s.length ≤ 1000000000) (o : List UInt8) (ho : Hid (escV s = o)) :
    Calls Try.prog 34 #[.string ⟨s.toArray⟩] w (Ret w (.tuple #[.string ⟨o.toArray⟩, .bool (escL true s).isSome])) := by
  have := Value_any ⟨s.toArray⟩ w (by show s.toArray.size ≤ _; simp; omega)
  rw [← ho.out]
  exact this
theorem RValue_l (s : List UInt8) (w : World) (hs : s.length ≤ 1000000000) (o : List UInt8) (ho : Hid (escV s = o)) :
    Calls Try.prog 37 #[.string ⟨s.toArray⟩] w (Ret w (.tuple #[.string ⟨o.toArray⟩, .bool (escL true s).isSome])) := by
  have := RValue_any ⟨s.toArray⟩ w (by show s.toArray.size ≤ _; simp; omega)
  rw [← ho.out]
  exact this
theorem Text_l (s : List UInt8) (w : World) (hs : s.length ≤ 1000000000) (o : List UInt8) (ho : Hid (escT s = o)) :
    Calls Try.prog 19 #[.string ⟨s.toArray⟩] w (Ret w (.tuple #[.string ⟨o.toArray⟩, .bool (escL false s).isSome])) := by
  have := Text_any ⟨s.toArray⟩ w (by show s.toArray.size ≤ _; simp; omega)
  rw [← ho.out]
  exact this
theorem RText_l (s : List UInt8) (w : World) (hs : s.length ≤ 1000000000) (o : List UInt8) (ho : Hid (escT s = o)) :
    Calls Try.prog 23 #[.string ⟨s.toArray⟩] w (Ret w (.tuple #[.string ⟨o.toArray⟩, .bool (escL false s).isSome])) := by
  have := RText_any ⟨s.toArray⟩ w (by show s.toArray.size ≤ _; simp; omega)
  rw [← ho.out]
  exact this

theorem builderF_below {T e : TypeId} {B b : Nat} {bs : List Value} {w w' : World} (h : Lib.IsBuilderF T e B b bs w) (hb : Below w.heap.size w w') : Lib.IsBuilderF T e B b bs w' := by
  have key : ∀ p, Lib.BuilderAtF T e B b p bs w → Lib.BuilderAtF T e B b p bs w' := fun p h => by
    obtain ⟨h1, v, h2, h3, h4⟩ := h
    refine ⟨h1, v, by rw [hb.block b (Array.getElem?_eq_some_iff.1 h2).1]; exact h2, ?_, h4⟩
    refine ⟨h3.1, ?_⟩
    rcases h3.2 with h | ⟨g, cap, cur, fz, k1, k2, k3, k4⟩
    · exact .inl h
    · exact .inr ⟨g, cap, cur, fz, k1, k2, by rw [hb.block g (Array.getElem?_eq_some_iff.1 k3).1]; exact k3, k4⟩
  rcases h with h | h
  · exact .inl (key _ h)
  · exact .inr (key _ h)

/-- The same bytes, whichever way they were put together. -/
theorem str_data {a : ByteArray} {l : List UInt8} (h : a.data.toList = l) : a = ⟨l.toArray⟩ := by
  obtain ⟨⟨x⟩⟩ := a
  simp at h
  subst h; rfl

set_option maxRecDepth 100000 in
set_option maxHeartbeats 2000000 in
theorem tag_any (x : ItemD) (A : Option Addr) (c : Nat) (w : World) (hA : AttrsAt w w.heap.size A x.attrs) (hs : SmallItem x) (T : List UInt8) (hT : Hid (tagL x = T)) (hTl : T.length ≤ 1000000000) :
    Calls Try.prog 20 #[.agg (itemVal x A c)] w (Ret w (.string ⟨T.toArray⟩)) := by
  obtain ⟨hs1, hs2, hs3, hs4, hs5⟩ := hs
  have HS4 := Lib.hid hs4
  have HA := Lib.hid hA
  clear hs4 hA hs5
  unfold itemVal strV
  go_enter Try.func20, Try.ntmps20
  have hpre := hT.out
  have htot : ∀ k, k ≤ x.attrs.length → ([60] ++ x.name ++ (x.attrs.take k).flatMap attrT) ++ (x.attrs.drop k).flatMap attrT = T := fun k _ => by
    rw [← hpre]
    unfold tagL
    rw [List.append_assoc, ← List.flatMap_append, List.take_append_drop]
  have HTOT := Lib.hid htot
  have hnl : x.name.length + 1 ≤ 1000000000 := by
    have := congrArg List.length (htot 0 (Nat.zero_le _))
    simp at this; omega
  clear hpre htot hT
  go_wp2_with fail
  have hB0 := Lib.IsBuilderF.of (builder_new 40 5 (w.alloc (.cells #[.int .i64 x.level, .int .i64 x.kind, .string ⟨x.name.toArray⟩, .string ⟨x.text.toArray⟩, .slice A x.attrs.length c] 30)))
  rw [World.size_alloc] at hB0
  have hlen : ([] : List Value).length + ((⟨[60].toArray⟩ : ByteArray) ++ ⟨x.name.toArray⟩).size ≤ 140737488355328 := by
    rw [ByteArray.size_append]
    show 0 + (([60] : List UInt8).toArray.size + x.name.toArray.size) ≤ _
    rw [List.size_toArray, List.size_toArray]
    simp only [List.length_cons, List.length_nil]
    omega
  have hz : w.heap.size + 1 ≤ ((w.alloc (.cells #[.int .i64 x.level, .int .i64 x.kind, .string ⟨x.name.toArray⟩, .string ⟨x.text.toArray⟩, .slice A x.attrs.length c] 30)).alloc (.cells #[.pointer none, .slice none 0 0] 40)).heap.size := by simp
  refine (WriteK (w.heap.size + 1) (w.heap.size + 1) [] _ _ hB0 hlen hz).mono ?_
  clear hlen hz
  rintro e w2 ⟨rfl, hB2, hb2, _⟩
  have hacc : Lib.IsBuilderF 40 5 (w.heap.size + 1) (w.heap.size + 1) (Lib.byteCells ([60] ++ x.name ++ (x.attrs.take 0).flatMap attrT)) w2 := by
    refine .inr ?_
    have e : Lib.byteCells ([60] ++ x.name ++ (x.attrs.take 0).flatMap attrT) = [] ++ Lib.strCells (⟨[60].toArray⟩ ++ ⟨x.name.toArray⟩) := by
      rw [strCells_bytes, str_app]; simp
    rw [e]; exact hB2
  have hz2 := hb2.size
  simp only [World.size_alloc] at hz2
  have hc4 : w2.cell? ⟨w.heap.size, 4, none⟩ = some (.slice A x.attrs.length c) := by
    rw [hb2.cell (p := ⟨w.heap.size, 4, none⟩) (by simp), World.cell?_alloc_lt _ _ _ (by simp), World.cell?_alloc_at _ _ _ _ (by simp)]; rfl
  have hbw2 : Below w.heap.size w w2 := (((Below.refl _ w).alloc (Nat.le_refl _) _).alloc (by simp) _).trans (hb2.mono (by omega))
  clear hB2
  go_wp2_with fail
  go_loopw [15] (fun i wr => ∃ (k : Nat), k ≤ x.attrs.length ∧ i = .int .i64 k ∧ Hid (Lib.IsBuilderF 40 5 (w.heap.size + 1) (w.heap.size + 1) (Lib.byteCells ([60] ++ x.name ++ (x.attrs.take k).flatMap attrT)) wr) ∧ Below w.heap.size w wr ∧ w.heap.size + 1 < wr.heap.size) (fun i _ => x.attrs.length - (intOf i).toNat)
  case atStart => exact ⟨0, Nat.zero_le _, rfl, hacc, hbw2, by omega⟩
  case round =>
    obtain ⟨k, hk, rfl, hacc, hbel, hzr⟩ := hrel
    by_cases hlt : k < x.attrs.length
    · obtain ⟨a, ha⟩ : ∃ a, Hid (x.attrs[k]? = some a) := ⟨x.attrs[k], List.getElem?_eq_getElem _⟩
      obtain ⟨ad, hAd, hbl, hcs⟩ := (HA.out.below hbel) (by omega)
      obtain ⟨hc0, hc1⟩ := hcs k a ha.out
      unfold strV at hc0 hc1
      clear hcs
      obtain ⟨hn1, hn2⟩ := HS4.out k a ha.out
      subst hAd
      have hlt' : (k : Int) < x.attrs.length := by omega
      have hstep : (x.attrs.take (k + 1)).flatMap attrT = (x.attrs.take k).flatMap attrT ++ attrT a := by
        rw [List.take_add_one, ha.out, List.flatMap_append]; simp
      have hl := congrArg List.length (HTOT.out (k + 1) hlt)
      rw [hstep] at hl
      simp only [List.length_append, attrT] at hl
      have HST := Lib.hid hstep
      obtain ⟨o, ho⟩ : ∃ o, Hid (escV a.value = o) := ⟨_, rfl⟩
      rw [ho.out] at hl
      have hl1 : ([60] ++ x.name ++ (x.attrs.take k).flatMap attrT).length + (a.name.length + o.length + 4) ≤ 1000000000 := by
        simp only [List.length_append, List.length_cons, List.length_nil] at hl ⊢; omega
      have hl2 : a.name.length + o.length + 4 ≤ 1000000000 := by omega
      clear hl hstep
      go_wp2_with fail
      refine (Value_l _ _ hn2 o ho).mono ?_; rintro e w3 ⟨rfl, hb3⟩
      have hz3 := hb3.size
      simp only [World.size_alloc] at hz3
      have hd0 : w3.cell? ⟨wr.heap.size, 0, none⟩ = some (.string ⟨a.name.toArray⟩) := by
        rw [hb3.cell (p := ⟨wr.heap.size, 0, none⟩) (by simp), World.cell?_alloc_at _ _ _ _ (by simp)]; rfl
      have hbw3 : Below wr.heap.size wr w3 := ((Below.refl _ wr).alloc (Nat.le_refl _) _).trans (hb3.mono (by simp))
      have hB3 := builderF_below hacc.out hbw3
      have HB3 := Lib.hid hB3
      clear hB3 hc0 hc1
      go_wp2_with fail
      refine (WriteK (w.heap.size + 1) (w.heap.size + 1) _ _ _ HB3.out ?hlen (by omega)).mono ?_
      case hlen =>
        rw [Lib.byteCells_length]
        simp only [ByteArray.size_append]
        show _ + (((([32] : List UInt8).toArray.size + a.name.toArray.size) + ([61, 34] : List UInt8).toArray.size + o.toArray.size) + ([34] : List UInt8).toArray.size) ≤ _
        simp only [List.size_toArray, List.length_cons, List.length_nil] at hl1 ⊢
        omega
      rintro e w4 ⟨rfl, hB4, hb4, _⟩
      have hz4 := hb4.size
      go_wp2_with fail
      go_roundw
      case rel =>
        refine ⟨k + 1, by omega, by go_num, ?_, (hbel.trans (hbw3.mono (by omega))).trans (hb4.mono (by omega)), by omega⟩
        refine .inr ?_
        rw [strCells_bytes, ← Lib.byteCells_append] at hB4
        have e : [60] ++ x.name ++ (x.attrs.take (k + 1)).flatMap attrT = ([60] ++ x.name ++ (x.attrs.take k).flatMap attrT) ++ attrT a := by
          rw [HST.out]; simp
        rw [e]
        have e2 : attrT a = (((⟨[32].toArray⟩ : ByteArray) ++ (⟨a.name.toArray⟩ : ByteArray) ++ (⟨[61, 34].toArray⟩ : ByteArray) ++ (⟨o.toArray⟩ : ByteArray) ++ (⟨[34].toArray⟩ : ByteArray)).data.toList) := by
          unfold attrT
          rw [ho.out]
          simp
        rw [e2]
        exact hB4
      case measure => simp [intOf]; omega
    · have hk' : k = x.attrs.length := by omega
      have hfin := HTOT.out k hk
      rw [List.drop_eq_nil_of_le (by omega)] at hfin
      have hfin' : [60] ++ x.name ++ (x.attrs.take k).flatMap attrT = T := by rw [← hfin]; simp
      rw [hfin'] at hacc
      subst hk'
      clear hfin hfin' hlt hk
      go_wp2_with fail
      refine (StringK _ _ T wr hacc.out (by omega)).mono ?_
      rintro e w4 ⟨rfl, _, hb4, _⟩
      go_wp2_with fail
      go_ret
      exact ⟨rfl, hbel.trans (hb4.mono (by omega))⟩

set_option maxRecDepth 100000 in
set_option maxHeartbeats 2000000 in
theorem Rtag_any (x : ItemD) (A : Option Addr) (c : Nat) (w : World) (hA : AttrsAt w w.heap.size A x.attrs) (hs : SmallItem x) (T : List UInt8) (hT : Hid (tagL x = T)) (hTl : T.length ≤ 1000000000) :
    Calls Try.prog 24 #[.agg (itemVal x A c)] w (Ret w (.string ⟨T.toArray⟩)) := by
  obtain ⟨hs1, hs2, hs3, hs4, hs5⟩ := hs
  have HS4 := Lib.hid hs4
  have HA := Lib.hid hA
  clear hs4 hA hs5
  unfold itemVal strV
  have hpre := hT.out
  have htot : ∀ k, k ≤ x.attrs.length → ([60] ++ x.name ++ (x.attrs.take k).flatMap attrT) ++ (x.attrs.drop k).flatMap attrT = T := fun k _ => by
    rw [← hpre]
    unfold tagL
    rw [List.append_assoc, ← List.flatMap_append, List.take_append_drop]
  have HTOT := Lib.hid htot
  clear hpre htot hT
  obtain ⟨W1, hW1⟩ : ∃ W1, Hid (W1 = w.alloc (.cells #[.int .i64 x.level, .int .i64 x.kind, .string ⟨x.name.toArray⟩, .string ⟨x.text.toArray⟩, .slice A x.attrs.length c] 30)) := ⟨_, rfl⟩
  have hbW : Below w.heap.size w W1 := by rw [hW1.out]; exact (Below.refl _ w).alloc (Nat.le_refl _) _
  have hzW : w.heap.size < W1.heap.size := by rw [hW1.out]; simp
  have H4 : Hid (∀ w', Below W1.heap.size W1 w' → w'.cell? ⟨w.heap.size, 4, none⟩ = some (.slice A x.attrs.length c)) := fun w' hb => by
    rw [hb.cell (p := ⟨w.heap.size, 4, none⟩) hzW, hW1.out, World.cell?_alloc_at _ _ _ _ (by simp)]; rfl
  go_enter Try.func24, Try.ntmps24
  go_wp2_with fail
  rw [← hW1.out]
  have hc4 := H4.out W1 (Below.refl _ _)
  go_loopw [3, 4] (fun s i wr => ∃ (k : Nat) (b : ByteArray), k ≤ x.attrs.length ∧ i = .int .i64 k ∧ s = .string b ∧ Hid (b.data.toList = [60] ++ x.name ++ (x.attrs.take k).flatMap attrT) ∧ Below W1.heap.size W1 wr) (fun _ i _ => x.attrs.length - (intOf i).toNat)
  case atStart => exact ⟨0, _, Nat.zero_le _, rfl, rfl, by show _ = _; rw [str_app]; simp, Below.refl _ _⟩
  case round =>
    obtain ⟨k, b, hk, rfl, rfl, hacc, hbel⟩ := hrel
    have hzr := hbel.size
    have hbwr : Below w.heap.size w wr := hbW.trans (hbel.mono (by omega))
    have hc4 := H4.out wr hbel
    by_cases hlt : k < x.attrs.length
    · obtain ⟨a, ha⟩ : ∃ a, Hid (x.attrs[k]? = some a) := ⟨x.attrs[k], List.getElem?_eq_getElem _⟩
      obtain ⟨ad, hAd, hbl, hcs⟩ := (HA.out.below hbwr) (by omega)
      obtain ⟨hc0, hc1⟩ := hcs k a ha.out
      unfold strV at hc0 hc1
      clear hcs
      obtain ⟨hn1, hn2⟩ := HS4.out k a ha.out
      subst hAd
      have hlt' : (k : Int) < x.attrs.length := by omega
      have hstep : (x.attrs.take (k + 1)).flatMap attrT = (x.attrs.take k).flatMap attrT ++ attrT a := by
        rw [List.take_add_one, ha.out, List.flatMap_append]; simp
      have hl := congrArg List.length (HTOT.out (k + 1) hlt)
      rw [hstep] at hl
      simp only [List.length_append, attrT] at hl
      have HST := Lib.hid hstep
      obtain ⟨o, ho⟩ : ∃ o, Hid (escV a.value = o) := ⟨_, rfl⟩
      rw [ho.out] at hl
      have hbs : b.size = ([60] ++ x.name ++ (x.attrs.take k).flatMap attrT).length := by rw [← hacc.out, Array.length_toList]; rfl
      have hl1 : b.size + (a.name.length + o.length + 4) ≤ 1000000000 := by
        rw [hbs]
        simp only [List.length_append, List.length_cons, List.length_nil] at hl ⊢; omega
      clear hl hstep hbs
      have hbl1 : (ad.add (k * 2)).block < wr.heap.size := by rw [block_of_add]; omega
      go_wp2_with fail
      refine (RValue_l _ _ hn2 o ho).mono ?_; rintro e w3 ⟨rfl, hb3⟩
      have hz3 := hb3.size
      have hd0 : w3.cell? (ad.add (k * 2)) = some (.string ⟨a.name.toArray⟩) := by
        rw [hb3.cell hbl1]; exact hc0
      have hd4 : w3.cell? ⟨w.heap.size, 4, none⟩ = some (.slice (some ad) x.attrs.length c) := H4.out w3 (hbel.trans (hb3.mono hzr))
      have hb3' := hbel.trans (hb3.mono hzr)
      clear hc0 hc1 hc4
      go_wp2_with fail
      go_roundw
      case rel =>
        refine ⟨k + 1, _, by omega, by go_num, rfl, ?_, hb3'⟩
        show _ = _
        rw [HST.out]
        simp [attrT, ho.out, hacc.out]
      case measure => simp [intOf]; omega
    · have hk' : k = x.attrs.length := by omega
      have hfin := HTOT.out k hk
      rw [List.drop_eq_nil_of_le (by omega)] at hfin
      have hfin' : [60] ++ x.name ++ (x.attrs.take k).flatMap attrT = T := by rw [← hfin]; simp
      rw [hfin'] at hacc
      have hb : b = ⟨T.toArray⟩ := str_data hacc.out
      subst hb
      subst hk'
      clear hfin hfin' hlt hk
      go_wp2_with fail
      go_ret
      exact ⟨rfl, hbwr⟩
end Go.Proofs.Ytiopijjlkmpikaa
