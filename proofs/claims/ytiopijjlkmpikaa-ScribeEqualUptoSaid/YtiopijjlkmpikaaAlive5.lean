/-
  The walk of law05.alive; the law ScribePrints.
-/
import Derived.Test.YtiopijjlkmpikaaRPrint
namespace Go.Proofs.Ytiopijjlkmpikaa
open Go.RowKit

def aliveDoc : List ItemD := [⟨0, 1, [97], [], []⟩, ⟨1, 2, [], [60], []⟩, ⟨1, 1, [98], [], []⟩]
def aliveText : List UInt8 := [60, 97, 62, 38, 108, 116, 59, 60, 98, 47, 62, 60, 47, 97, 62]

theorem alive_print : printL aliveDoc = (aliveText, 0) := by
  have hc : (checkL aliveDoc).2 = 0 := by decide +kernel
  have hn : normalL aliveDoc = aliveDoc := by decide +kernel
  have h1 : escT [60] = [38, 108, 116, 59] := by decide +kernel
  unfold printL
  rw [if_pos hc, hn]
  have e2 : pr [⟨1, 1, [98], [], []⟩] = [60, 98, 47, 62] := by
    rw [pr_cons]
    show nodeL _ [] (pr []) ++ pr [] = _
    rw [pr_nil]
    rfl
  have e1 : pr [⟨1, 2, [], [60], []⟩, ⟨1, 1, [98], [], []⟩] = [38, 108, 116, 59, 60, 98, 47, 62] := by
    rw [pr_cons]
    show nodeL _ [] (pr []) ++ pr [⟨1, 1, [98], [], []⟩] = _
    rw [pr_nil, e2]
    show escT [60] ++ _ = _
    rw [h1]; rfl
  show (nodeL ⟨0, 1, [97], [], []⟩ [⟨1, 2, [], [60], []⟩, ⟨1, 1, [98], [], []⟩] (pr [⟨1, 2, [], [60], []⟩, ⟨1, 1, [98], [], []⟩]), (0 : Int)) = _
  rw [e1]
  rfl

theorem aliveDoc_small : SmallDoc aliveDoc := by
  refine ⟨small_of_mem (by decide) (fun x hx => ?_), by decide⟩
  simp [aliveDoc] at hx
  rcases hx with rfl | rfl | rfl <;> exact ⟨by decide, by decide, by decide, by simp, by decide⟩

set_option maxRecDepth 100000 in
set_option maxHeartbeats 2000000 in
theorem alive5_any (w : World) : Calls Try.prog 10 #[] w (Ret w (.bool true)) := by
  have HP : Hid (printL aliveDoc = (aliveText, 0)) := alive_print
  go_enter Try.func10, Try.ntmps10
  have hit : Hid (∀ w' : World, w' = w.alloc (.cells ((aliveDoc.map fun x => ((x, none, 0) : Slot)).flatMap cellsI).toArray 30) → ItemsAt w' w'.heap.size (some ⟨w.heap.size, 0, none⟩) aliveDoc) := fun w' hw => by
    subst hw
    have ho : ItemsOwn (w.alloc (.cells ((aliveDoc.map fun x => ((x, none, 0) : Slot)).flatMap cellsI).toArray 30)) w.heap.size (some ⟨w.heap.size, 0, none⟩) 3 (aliveDoc.map fun x => ((x, none, 0) : Slot)) :=
      World.ownsRow_lit w _ 3 (Nat.le_refl _) (by decide) rfl
    have := ItemsOwn.at ho (fun s hs => by
      obtain ⟨x, hx, rfl⟩ := List.mem_map.1 hs
      simp [aliveDoc] at hx
      rcases hx with rfl | rfl | rfl <;> exact ⟨fun h => absurd h (by simp), Nat.le_refl _⟩)
    rw [List.map_map] at this
    have e : aliveDoc.map ((fun s : Slot => s.1) ∘ fun x => ((x, none, 0) : Slot)) = aliveDoc := rfl
    rw [e] at this
    exact this
  go_wp2_with fail
  refine (Print_any aliveDoc (some ⟨w.heap.size, 0, none⟩) 3 _ (hit.out _ rfl) aliveDoc_small aliveText 0 HP).mono ?_
  rintro e w2 ⟨rfl, hb2⟩
  unfold aliveText
  go_wp2_with fail
  go_ret
  exact ⟨rfl, ((Below.refl _ w).alloc (Nat.le_refl _) _).trans (hb2.mono (by simp))⟩

/-- The law ScribePrints. -/
theorem walk_ScribePrints (l : List ItemD) (A : Option Addr) (c : Nat) (w : World) (hA : ItemsAt w w.heap.size A l) (hs : SmallDoc l) :
    Calls Try.prog 3 #[.slice A l.length c] w (Ret w (.bool true)) := by
  have HA := Lib.hid hA
  clear hA
  obtain ⟨o, e, hV⟩ : ∃ o e, Hid (printL l = (o, e)) := ⟨_, _, rfl⟩
  go_enter Try.func3, Try.ntmps3
  go_wp2_with fail
  refine (Print_any l A c w HA.out hs o e hV).mono ?_
  rintro e2 w2 ⟨rfl, hb2⟩
  go_wp2_with fail
  refine (RPrint_any l A c w2 ((HA.out.below hb2).more hb2.size) hs o e hV).mono ?_
  rintro e3 w3 ⟨rfl, hb3⟩
  go_wp2_with fail
  refine (alive5_any w3).mono ?_
  rintro e4 w4 ⟨rfl, hb4⟩
  go_wp2_with fail
  go_ret
  exact ⟨rfl, hb2.trans ((hb3.mono hb2.size).trans (hb4.mono (Nat.le_trans hb2.size hb3.size)))⟩
end Go.Proofs.Ytiopijjlkmpikaa
