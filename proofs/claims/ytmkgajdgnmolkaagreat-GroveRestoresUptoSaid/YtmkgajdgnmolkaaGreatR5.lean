/-
  Texts of this claim, joined (by a program of the claim's author): GRef, GCut, GRem, GInv, GSt, GStep, GMov, GStepB, GFind.
-/
import Derived.Test.YtmkgajdgnmolkaaGreatR4
import Derived.Test.YtmkgajdgnmolkaaGreatR1
import Derived.Test.YtmkgajdgnmolkaaGreatR3
namespace Go.Proofs.YtmkgajdgnmolkaaGreat
set_option maxRecDepth 100000
set_option maxHeartbeats 16000000
section
def findL : List RowD → Int → Option Nat
 | [], _ => none
 | r :: T, p => if r.id = p then some 0 else (findL T p).map (· + 1)
def lvlL (L : List RowD) (k : Nat) : Int := match L[k]? with
 | some r => r.x.level
 | none => 0
def belowL (L : List RowD) (k : Nat) : List RowD := (L.drop (k + 1)).takeWhile (fun r => decide (lvlL L k < r.x.level))
def endL (L : List RowD) (k : Nat) : Nat := k + 1 + (belowL L k).length
def posL (lv : Int) : Nat → List RowD → List Nat
 | _, [] => []
 | b, r :: T => if r.x.level = lv then b :: posL lv (b + 1) T else posL lv (b + 1) T
def kidsL (L : List RowD) (k : Nat) : List Nat := posL (lvlL L k + 1) (k + 1) (belowL L k)
def lastL (lv : Int) : Int → List RowD → Int
 | a, [] => a
 | a, r :: T => lastL lv (if r.x.level = lv then r.id else a) T
def parentL (L : List RowD) (k : Nat) : Int := lastL (lvlL L k - 1) 0 (L.take k)
def partL (l : List RowD) (less : Int) : List RowD := l.map fun r => ⟨r.id, { r.x with level := r.x.level - less }⟩
def namedL (next : Int) (l : List ItemD) (more : Int) : List RowD := (l.zip (idsFrom next l.length)).map fun z => ⟨z.2, { z.1 with level := z.1.level + more }⟩
def spotL (L : List RowD) (k : Nat) (pl : Nat) : Nat := match (kidsL L k)[pl]? with
 | some i => i
 | none => endL L k
def laidL (L : List RowD) (n : Nat) (new : List RowD) : List RowD := L.take n ++ new ++ L.drop n
def withoutL (L : List RowD) (k : Nat) : List RowD := L.take k ++ L.drop (endL L k)
def setL (L : List RowD) (k : Nat) (h : NodeD → NodeD) : List RowD := L.modify k fun r => ⟨r.id, (h r.x.node).at r.x.level⟩
def itemsL (L : List RowD) (k : Nat) : List ItemD := (partL ((L.drop k).take (endL L k - k)) (lvlL L k)).map (·.x)
def withA : List AttrD → AttrD → List AttrD
 | [], a => [a]
 | b :: r, a => if leB a.name b.name then a :: (b :: r).filter (fun c => decide (c.name ≠ a.name)) else b :: withA r a
def lessA (l : List AttrD) (name : List UInt8) : List AttrD := l.filter fun c => decide (c.name ≠ name)
abbrev Ans := List RowD × Int × Int × Int
def loadL (L : List RowD) (next : Int) (l : List ItemD) : Ans :=
 if (checkL l).2 ≠ 0 then (L, next, 0, (checkL l).2) else if 2147483647 < next + (l.length : Int) then (L, next, 0, 66) else (namedL next l 0, next + (l.length : Int), next, 0)
def insertL (L : List RowD) (next : Int) (id pl : Int) (l : List ItemD) : Ans := match findL L id with
 | none => (L, next, 0, 60)
 | some k => match L[k]? with
  | none => (L, next, 0, 60)
  | some r =>
   if r.x.kind ≠ 1 then (L, next, 0, 68) else
   if pl < 0 ∨ ((kidsL L k).length : Int) < pl then (L, next, 0, 69) else
   if (forestL l).2 ≠ 0 then (L, next, 0, (forestL l).2) else
   if 40 ≤ r.x.level + 1 + (forestL l).1 then (L, next, 0, 65) else
   if 1000 < L.length + l.length ∨ 2147483647 < next + (l.length : Int) then (L, next, 0, 66) else
   (laidL L (spotL L k pl.toNat) (namedL next l (r.x.level + 1)), next + (l.length : Int), next, 0)
def deleteL (L : List RowD) (next : Int) (id : Int) : Ans := match findL L id with
 | none => (L, next, 0, 60)
 | some k => if k = 0 then (L, next, 0, 62) else (withoutL L k, next, 0, 0)
def moveL (L : List RowD) (next : Int) (id to pl : Int) : Ans := match findL L id, findL L to with
 | some k, some p => if k = 0 then (L, next, 0, 62) else match L[p]? with
  | none => (L, next, 0, 60)
  | some r =>
   if r.x.kind ≠ 1 then (L, next, 0, 68) else
   if k ≤ p ∧ p < endL L k then (L, next, 0, 61) else
   match findL (withoutL L k) to with
   | none => (L, next, 0, 60)
   | some q =>
    if pl < 0 ∨ ((kidsL (withoutL L k) q).length : Int) < pl then (L, next, 0, 69) else
    let new := partL ((L.drop k).take (endL L k - k)) (lvlL L k - r.x.level - 1)
    if new.any (fun z => decide (40 ≤ z.x.level)) then (L, next, 0, 65) else
    (laidL (withoutL L k) (spotL (withoutL L k) q pl.toNat) new, next, 0, 0)
 | _, _ => (L, next, 0, 60)
def setAttrL (L : List RowD) (next : Int) (id : Int) (name value : List UInt8) : Ans := match findL L id with
 | none => (L, next, 0, 60)
 | some k => match L[k]? with
  | none => (L, next, 0, 60)
  | some r =>
   if r.x.kind ≠ 1 then (L, next, 0, 68) else
   if nameL name = false then (L, next, 0, 63) else
   if charsE value ≠ 0 then (L, next, 0, charsE value) else
   if 20 < (withA r.x.attrs ⟨name, value⟩).length then (L, next, 0, 67) else
   (setL L k fun d => { d with attrs := withA d.attrs ⟨name, value⟩ }, next, 0, 0)
def delAttrL (L : List RowD) (next : Int) (id : Int) (name : List UInt8) : Ans := match findL L id with
 | none => (L, next, 0, 60)
 | some k => match L[k]? with
  | none => (L, next, 0, 60)
  | some r =>
   if r.x.kind ≠ 1 then (L, next, 0, 68) else
   if (lessA r.x.attrs name).length = r.x.attrs.length then (L, next, 0, 63) else
   (setL L k fun d => { d with attrs := lessA d.attrs name }, next, 0, 0)
def setTextL (L : List RowD) (next : Int) (id : Int) (s : List UInt8) : Ans := match findL L id with
 | none => (L, next, 0, 60)
 | some k => match L[k]? with
  | none => (L, next, 0, 60)
  | some r =>
   if r.x.kind ≠ 2 then (L, next, 0, 68) else
   if charsE s ≠ 0 then (L, next, 0, charsE s) else
   (setL L k fun d => { d with text := s }, next, 0, 0)
structure OpD where
 kind : Int
 id : Int
 to : Int
 pl : Int
 name : List UInt8
 text : List UInt8
 l : List ItemD
def doL (L : List RowD) (next : Int) (o : OpD) : Ans :=
 if o.kind = 0 then loadL L next o.l else
 if o.kind = 1 then insertL L next o.id o.pl o.l else
 if o.kind = 2 then deleteL L next o.id else
 if o.kind = 3 then moveL L next o.id o.to o.pl else
 if o.kind = 4 then setAttrL L next o.id o.name o.text else
 if o.kind = 5 then delAttrL L next o.id o.name else
 if o.kind = 6 then setTextL L next o.id o.text else (L, next, 0, 0)
/-! ## Where a node stands -/
theorem find_at : ∀ (A : List RowD) (r : RowD) (T : List RowD) (p : Int), (∀ a ∈ A, a.id ≠ p) → r.id = p → findL (A ++ r :: T) p = some A.length
 | [], r, T, p, _, h => by simp [findL, h]
 | a :: A, r, T, p, h, h' => by
  rw [List.cons_append, findL, if_neg (h a (by simp)), find_at A r T p (fun z hz => h z (by simp [hz])) h']
  rfl
theorem find_none : ∀ (L : List RowD) (p : Int), (∀ r ∈ L, r.id ≠ p) → findL L p = none
 | [], _, _ => rfl
 | r :: L, p, h => by rw [findL, if_neg (h r (by simp)), find_none L p (fun z hz => h z (by simp [hz]))]; rfl
theorem get_at (A : List RowD) (r : RowD) (T : List RowD) : (A ++ r :: T)[A.length]? = some r := by simp
theorem lvl_at (A : List RowD) (r : RowD) (T : List RowD) : lvlL (A ++ r :: T) A.length = r.x.level := by unfold lvlL; rw [get_at]
theorem drop_at (A : List RowD) (r : RowD) (T : List RowD) : (A ++ r :: T).drop (A.length + 1) = T := by
 rw [← List.drop_drop, List.drop_left]; rfl
theorem take_while_at : ∀ (K B : List RowD) (lv : Int), (∀ z ∈ K, lv < z.x.level) → (∀ z ∈ B.head?, z.x.level ≤ lv) → (K ++ B).takeWhile (fun r => decide (lv < r.x.level)) = K
 | [], [], _, _, _ => rfl
 | [], b :: B, lv, _, h => by
  have := h b (by simp)
  rw [List.nil_append, List.takeWhile_cons_of_neg (by simp; omega)]
 | k :: K, B, lv, h, h' => by
  have := h k (by simp)
  rw [List.cons_append, List.takeWhile_cons_of_pos (by simp; omega), take_while_at K B lv (fun z hz => h z (by simp [hz])) h']
theorem modify_app (A : List RowD) (r : RowD) (T : List RowD) (f : RowD → RowD) : (A ++ r :: T).modify A.length f = A ++ f r :: T := by
 induction A with
 | nil => rfl
 | cons a A ih => rw [List.cons_append, List.length_cons, List.modify_succ_cons, ih]; rfl
section
variable {A K B : List RowD} {r : RowD}
theorem below_at (hK : ∀ z ∈ K, r.x.level < z.x.level) (hB : ∀ z ∈ B.head?, z.x.level ≤ r.x.level) : belowL (A ++ r :: (K ++ B)) A.length = K := by
 unfold belowL
 rw [lvl_at, drop_at, take_while_at K B _ hK hB]
theorem end_at (hK : ∀ z ∈ K, r.x.level < z.x.level) (hB : ∀ z ∈ B.head?, z.x.level ≤ r.x.level) : endL (A ++ r :: (K ++ B)) A.length = A.length + 1 + K.length := by
 unfold endL
 rw [below_at hK hB]
theorem without_at (hK : ∀ z ∈ K, r.x.level < z.x.level) (hB : ∀ z ∈ B.head?, z.x.level ≤ r.x.level) : withoutL (A ++ r :: (K ++ B)) A.length = A ++ B := by
 unfold withoutL
 rw [end_at hK hB, List.take_left, ← List.drop_drop, drop_at, List.drop_left]
theorem part_at (hK : ∀ z ∈ K, r.x.level < z.x.level) (hB : ∀ z ∈ B.head?, z.x.level ≤ r.x.level) : ((A ++ r :: (K ++ B)).drop A.length).take (endL (A ++ r :: (K ++ B)) A.length - A.length) = r :: K := by
 rw [end_at hK hB, List.drop_left, show A.length + 1 + K.length - A.length = K.length + 1 by omega, List.take_succ_cons, List.take_left]
theorem set_at (h : NodeD → NodeD) (T : List RowD) : setL (A ++ r :: T) A.length h = A ++ ⟨r.id, (h r.x.node).at r.x.level⟩ :: T := by
 unfold setL
 exact modify_app A r T _
end
theorem posL_app (lv : Int) : ∀ (X Y : List RowD) (b : Nat), posL lv b (X ++ Y) = posL lv b X ++ posL lv (b + X.length) Y
 | [], _, _ => rfl
 | x :: X, Y, b => by
  simp only [List.cons_append, posL, posL_app lv X Y (b + 1), List.length_cons]
  rw [show b + 1 + X.length = b + (X.length + 1) by omega]
  split <;> rfl
theorem posL_high (lv : Int) : ∀ (X : List RowD) (b : Nat), (∀ z ∈ X, lv < z.x.level) → posL lv b X = []
 | [], _, _ => rfl
 | x :: X, b, h => by
  have := h x (by simp)
  rw [posL, if_neg (by omega), posL_high lv X (b + 1) (fun z hz => h z (by simp [hz]))]
def offs : Nat → Fo → List Nat
 | _, .nil => []
 | b, .cons _ _ ks r => b :: offs (b + 1 + ks.cnt) r
theorem pos_flat : ∀ (F : Fo) (lv : Int) (b : Nat), posL lv b (F.flat lv) = offs b F
 | .nil, _, _ => rfl
 | .cons id d ks r, lv, b => by
  rw [Fo.flat, posL, if_pos (by rfl), posL_app, posL_high lv _ _ (fun z hz => by have := Fo.flat_ge ks (lv + 1) z hz; omega), Fo.flat_len, pos_flat r lv]
  rfl
theorem offs_len : ∀ (F : Fo) (b : Nat), (offs b F).length = F.roots.length
 | .nil, _ => rfl
 | .cons id d ks r, b => by simp [offs, Fo.roots, offs_len r]
theorem offs_app : ∀ (X Y : Fo) (b : Nat), offs b (X.app Y) = offs b X ++ offs (b + X.cnt) Y
 | .nil, _, _ => rfl
 | .cons id d ks r, Y, b => by
  simp only [Fo.app, offs, Fo.cnt, offs_app r Y, List.cons_append]
  rw [show b + 1 + ks.cnt + r.cnt = b + (1 + ks.cnt + r.cnt) by omega]
theorem offs_get (X Y : Fo) (b : Nat) : (offs b (X.app Y))[X.roots.length]? = match Y with
  | .nil => none
  | .cons _ _ _ _ => some (b + X.cnt) := by
 rw [offs_app, List.getElem?_append_right (by rw [offs_len]; exact Nat.le_refl _), offs_len, Nat.sub_self]
 cases Y <;> rfl
theorem lastL_app (lv : Int) : ∀ (X Y : List RowD) (a : Int), lastL lv a (X ++ Y) = lastL lv (lastL lv a X) Y
 | [], _, _ => rfl
 | x :: X, Y, a => by simp only [List.cons_append, lastL, lastL_app lv X Y]
theorem lastL_high (lv : Int) : ∀ (X : List RowD) (a : Int), (∀ z ∈ X, lv < z.x.level) → lastL lv a X = a
 | [], _, _ => rfl
 | x :: X, a, h => by
  have := h x (by simp)
  rw [lastL, if_neg (by omega), lastL_high lv X a (fun z hz => h z (by simp [hz]))]
end
section
open Go.RowKit Go.Shelf
section
variable {w : World} {t mb : Nat} {y : Lay} {g : Int → Option Ent} {root next : Int} {n : Nat}
theorem cut_any (h : TreeAt w t mb y g root next n) (hwf : ∀ id e, g id = some e → wfI id) {id : Int} {e p : Ent} (he : g id = some e) (hp : g e.par = some p) (k : Nat) (hk : p.kids[k]? = some id) (hmin : ∀ j, j < k → p.kids[j]? ≠ some id) (hl : p.kids.length ≤ 1000000) :
  Calls Tryz.prog 60 #[.pointer (some ⟨t, 0, none⟩), .int .i64 id] w fun er w' => er = .returned (.tuple #[]) ∧ ∃ y', y'.nb = y.nb ∧ TreeAt w' t mb y' (fset g e.par (some { p with kids := p.kids.eraseIdx k })) root next n ∧
   Grows (Mine t mb y g) (Mine t mb y' (fset g e.par (some { p with kids := p.kids.eraseIdx k }))) w w' := by
 have c0 := h.c0
 have c1 := h.n1 he
 have hl1 := fun (j : Nat) => ((h.keep (w' := w.drewN j) (fun _ _ => rfl)).look_yes he (hwf id _ he)).2
 have hl2 := fun (j : Nat) => ((h.keep (w' := w.drewN j) (fun _ _ => rfl)).look_yes hp (hwf e.par _ hp)).2
 have HH := Lib.hid h
 have HP := Lib.hid hp
 have HK := Lib.hid hk
 have HM := Lib.hid hmin
 have HL := Lib.hid hl
 clear h he hp hk hmin hl hwf
 go_enter Tryz.func60, Tryz.ntmps60
 go_wp2_with fail
 go_quiet (fail)
 obtain ⟨W1, hW1⟩ : ∃ W1, Hid (w.drewN nq = W1) := ⟨_, rfl⟩
 rw [hW1.out]
 have hb1 : Below w.heap.size w W1 := by rw [← hW1.out]; exact ⟨rfl, rfl, rfl, Nat.le_refl _, fun _ _ => rfl⟩
 have h1 := HH.out.below hb1
 have c7 := h1.n7 HP.out
 have hrow := h1.kid _ _ HP.out
 have H1 := Lib.hid h1
 have HB1 := Lib.hid hb1
 have HROW := Lib.hid hrow
 have hkl : k < p.kids.length := (List.getElem?_eq_some_iff.1 HK.out).1
 have k0 : (0 : Int) ≤ (k : Int) := by omega
 have k1 : (k : Int) ≤ 1000000 := by have := HL.out; omega
 clear hl1 hl2 h1 hb1 hrow c0 c1
 go_wp2_with fail
 refine (Index_int _ _ _ HROW.out HL.out k id HK.out HM.out).mono ?_
 rintro e1 w2 ⟨rfl, rfl⟩
 go_wp2_with fail
 refine (Delete_int _ _ k _ HROW.out HL.out hkl).mono ?_
 rintro e1 w3 ⟨v', rfl, hr3, hg3, hf3⟩
 obtain ⟨q0, q1, q2⟩ := H1.out.set_kids HP.out hr3 hg3 hf3
 have f7 := cell_row q0 7 _ rfl
 have f8 := free_row q0 7
 have HQ1 := Lib.hid q1
 have HQ2 := Lib.hid q2
 clear q0 q1 q2
 obtain ⟨pa, pn, pc, hv'⟩ : ∃ pa pn pc, v' = .slice pa pn pc := by
  rcases hr3.2 with ⟨h, _⟩ | ⟨_, _, _, h, _⟩
  ·exact ⟨_, _, _, h⟩
  ·exact ⟨_, _, _, h⟩
 clear hr3 hg3 hf3
 subst hv'
 go_wp2_with fail
 go_end0
 exact ⟨rfl, layK y e.par (.slice pa pn pc), rfl, HQ1.out, (Grows.of_below HB1.out).trans HQ2.out⟩
end
end
section
open Go.RowKit Go.Shelf
attribute [local go_sem] Oper.semAt_some
theorem wpList_delete_runI {P : Program} (w : World) {ops : Array Oper} {rest : List Oper} {o : Oper} {a : Act} {Q : Exit → Act → World → Prop} (hgd : o.guard = none) (m x : Operand) (t k : TypeId)
  (ho : o.op = .call { callee := .builtin .delete, args := #[m, x], argTypes := #[t, k] }) (v u : Value) (hm : a.eval m = v) (hx : a.eval x = u) {v' : Value} {w' : World}
  (hr : (Builtin.delete_ #[t, k] o.type #[v, u]).run P w = .ok v' w') (h : wpList P ops Q rest (a.put o.dst v') w') : wpList P ops Q (o :: rest) a w := by
 refine wpList_plain hgd fun _ hK => ?_
 unfold Oper.wp execOp
 simp only [ho, resolve, invoke, builtin, Sem.run_bind, Sem.run_pure, Result.andThen_ok, List.map_toArray, List.map_cons, List.map_nil, hm, hx, hr]
 exact hK _ _ h
def remG (g : Int → Option Ent) (l : List Int) : Int → Option Ent := fun x => if x ∈ l then none else g x
section
variable {w : World} {t mb : Nat} {y : Lay} {g : Int → Option Ent} {root next : Int} {n : Nat}
theorem Delete_no (h : TreeAt w t mb y g root next n) {id : Int} (hw : wfI id) (he : g id = none) :
  Calls Tryz.prog 30 #[.pointer (some ⟨t, 0, none⟩), .int .i64 id] w fun e w' => e = .returned (.int .i64 60) ∧ Below w.heap.size w w' := by
 have c0 := h.c0
 have hl := (h.look_no he hw).1
 clear h he
 refine callsIn_wide.1 (callsIn_of_wp_marks (n := 0) Tryz.func30 rfl trivial ?_ rfl)
 simp only [Tryz.ntmps30, List.size_toArray, List.length_cons, List.length_nil, Nat.reduceAdd, Nat.reduceSub, Array.replicate_succ, Array.replicate_zero, List.push_toArray, List.append_toArray, List.nil_append, List.cons_append]
 gi_wp2
 refine marks_leave [] w (by simp) (by simp) (fun w' hw' => ⟨_, results_tmp Tryz.results30 _ _ _, rfl, ?_⟩)
 exact ⟨hw'.os, hw'.tape, hw'.output, hw'.size, fun b hb => hw'.block b hb (by simp)⟩
theorem Delete_root (h : TreeAt w t mb y g root next n) {id : Int} {e : Ent} (hw : wfI id) (he : g id = some e) (hr : id = root) :
  Calls Tryz.prog 30 #[.pointer (some ⟨t, 0, none⟩), .int .i64 id] w fun e w' => e = .returned (.int .i64 62) ∧ Below w.heap.size w w' := by
 have c0 := h.c0
 have c1 := h.c1
 have hl := (h.look_yes he hw).1
 subst hr
 clear h he
 refine callsIn_wide.1 (callsIn_of_wp_marks (n := 0) Tryz.func30 rfl trivial ?_ rfl)
 simp only [Tryz.ntmps30, List.size_toArray, List.length_cons, List.length_nil, Nat.reduceAdd, Nat.reduceSub, Array.replicate_succ, Array.replicate_zero, List.push_toArray, List.append_toArray, List.nil_append, List.cons_append]
 gi_wp2
 refine marks_leave [] w (by simp) (by simp) (fun w' hw' => ⟨_, results_tmp Tryz.results30 _ _ _, rfl, ?_⟩)
 exact ⟨hw'.os, hw'.tape, hw'.output, hw'.size, fun b hb => hw'.block b hb (by simp)⟩
theorem Delete_yes (h : TreeAt w t mb y g root next n) (hwf : ∀ id e, g id = some e → wfI id) {id : Int} {e p : Ent} (he : g id = some e) (hr : id ≠ root) (hp : g e.par = some p) (k : Nat) (hk : p.kids[k]? = some id) (hmin : ∀ j, j < k → p.kids[j]? ≠ some id) (hl : p.kids.length ≤ 1000000)
  (g1 : Int → Option Ent) (hg1 : Hid (fset g e.par (some { p with kids := p.kids.eraseIdx k }) = g1)) (xs : List (Int × Int)) (hxs : xs.length ≤ 1000000) (hit : ∀ y1, IterB t mb y1 g1 root next n id 0 xs) (hxg : ∀ x ∈ xs, ∃ e, g1 x.1 = some e) (hnd : (xs.map (·.1)).Nodup) :
  Calls Tryz.prog 30 #[.pointer (some ⟨t, 0, none⟩), .int .i64 id] w fun er w' => er = .returned (.int .i64 0) ∧ TP t mb y g w (remG g1 (xs.map (·.1))) root next (n - xs.length) w' := by
 have c0 := h.c0
 have c1 := h.c1
 have hlk := (h.look_yes he (hwf _ _ he)).1
 have hr1 : (id == root) = false := by simpa using hr
 have hcut := cut_any h hwf he hp k hk hmin hl
 rw [hg1.out] at hcut
 have HCUT := Lib.hid hcut
 have hwf1 : ∀ id e, g1 id = some e → wfI id := fun x e0 hx => by
  rw [← hg1.out] at hx
  by_cases hxe : x = e.par
  ·subst hxe; exact hwf _ _ hp
  ·rw [fset_other _ _ hxe] at hx; exact hwf _ _ hx
 have HIT := Lib.hid hit
 have HH := Lib.hid h
 clear h he hp hk hmin hl hit hcut
 refine callsIn_wide.1 (callsIn_of_wp_marks (n := 0) Tryz.func30 rfl trivial ?_ rfl)
 simp only [Tryz.ntmps30, List.size_toArray, List.length_cons, List.length_nil, Nat.reduceAdd, Nat.reduceSub, Array.replicate_succ, Array.replicate_zero, List.push_toArray, List.append_toArray, List.nil_append, List.cons_append]
 gi_wp2
 refine ⟨trivial, rfl, ?_⟩
 refine (callsIn_wide.2 HCUT.out).mono ?_
 rintro e1 w0 ⟨rfl, y1, _, ht0, hgr0⟩
 obtain ⟨W1, hW1⟩ : ∃ W1, Hid (W1 = w0.alloc (.cells #[.slice none 0 0] 43)) := ⟨_, rfl⟩
 have hb1 : Below w0.heap.size w0 W1 := by rw [hW1.out]; exact (Below.refl _ w0).alloc (Nat.le_refl _) _
 have hx1 : W1.heap[w0.heap.size]? = some (.cells #[.slice none 0 0] 43 (0, 0)) := by rw [hW1.out]; exact heap_alloc_new w0 _
 have hz1 : W1.heap.size = w0.heap.size + 1 := by rw [hW1.out]; simp
 have ht1 : TreeAt W1 t mb y1 g1 root next n := ht0.below hb1
 have HB1 := Lib.hid hb1
 have HT1 := Lib.hid ht1
 have HX1 := Lib.hid hx1
 have HTW := Lib.hid ht0
 have HGR0 := Lib.hid hgr0
 obtain ⟨N, hN⟩ : ∃ N, Hid (w0.heap.size = N) := ⟨_, rfl⟩
 clear hb1 hx1 ht1 ht0 hgr0 c0 c1 hlk
 gi_wp2
 rw [← hW1.out]
 refine ⟨trivial, rfl, ?_⟩
 refine (callsIn_wide.2 (below_boxes W1 t id 0)).mono ?_
 rintro e w4 ⟨rfl, hb4, hz4, k1, k2, k3⟩
 have hit := HIT.out y1 w4 _ _ _ (HT1.out.below hb4) k1 k2 k3
 have hbx4 : w4.heap[w0.heap.size]? = some (.cells #[.slice none 0 0] 43 (0, 0)) := (hb4.block _ (by omega)).trans HX1.out
 have hb04 : Below w0.heap.size w0 w4 := HB1.out.trans (hb4.mono (by omega))
 have HI := Lib.hid hit
 have HT4 := Lib.hid (HT1.out.below hb4)
 have HX4 := Lib.hid hbx4
 have HB4 := Lib.hid hb04
 clear hit hbx4 hb04 hb4 k1 k2 k3
 rw [hN.out] at HX4 HB4 hz1
 obtain ⟨Z, hZ⟩ : ∃ Z, Hid (W1.heap.size = Z) := ⟨_, rfl⟩
 rw [hZ.out] at HI hz4 hz1
 rw [hN.out, hZ.out]
 have HZ1 := Lib.hid hz1
 have HZ4 := Lib.hid hz4
 clear hz1 hz4
 gi_wp2
 refine range_law (gf := 78) (lb := #[.pointer (some ⟨Z, 0, none⟩), .pointer (some ⟨Z + 1, 0, none⟩), .pointer (some ⟨Z + 2, 0, none⟩)]) rfl (enters_of Tryz.func78 (by kernel_rfl) rfl)
  HI.out (fun b hb => ⟨?dlt, rfl⟩) (Nat.le_refl _) (fun _ => rfl) (fun b => b = N) (fun b hb => ⟨?clt, ?cnd⟩)
  (fun i Fq W' => BoxRow N N 43 3 1 i ((xs.take i).map fun x => Value.int .i64 x.1) Fq W')
  (fun c Fq W' => False)
  ?sI ?sX ?start
  (fun x => { tmps := #[Value.pointer (some ⟨t, 0, none⟩), .int .i64 id, undef, undef, .int .i64 0, .pointer (some ⟨y.nb id, 0, none⟩), .bool true, .pointer (some ⟨N, 0, none⟩), .int .i64 x.1, undef, undef, .tuple #[.pointer (some ⟨y.nb id, 0, none⟩), .bool true], .pointer (some ⟨t, 0, none⟩), .pointer (some ⟨t, 0, none⟩), .pointer (some ⟨t, 0, none⟩), .map (some mb), .int .i64 id, .tuple #[.pointer (some ⟨y.nb id, 0, none⟩), .bool true], .pointer (some ⟨y.nb id, 0, none⟩), .bool true, .bool false, .bool true, .bool false, .bool false, .int .i64 id, .pointer (some ⟨t, 0, none⟩), .pointer (some ⟨t, 0, none⟩), .pointer (some ⟨t, 1, none⟩), .int .i64 root, .bool false, .pointer (some ⟨t, 0, none⟩), .int .i64 id, .tuple #[], .pointer (some ⟨t, 0, none⟩), .int .i64 id, .func (.func 78) #[] #[.pointer (some ⟨Z, 0, none⟩), .pointer (some ⟨Z + 1, 0, none⟩), .pointer (some ⟨Z + 2, 0, none⟩)], .int .i64 x.1, .int .i64 x.2, undef, undef, undef, undef, undef, undef, undef, undef, undef, undef, undef, undef, undef, undef, undef, undef], defers := [] }) ?assign ?body ?done ?stop
 case dlt =>
  have h1 := HZ1.out
  have h4 := HZ4.out
  rcases hb with hb | rfl | rfl | rfl
  ·exact HT4.out.lt hb
  ·omega
  ·omega
  ·omega
 case clt => have h1 := HZ1.out; have h4 := HZ4.out; omega
 case cnd =>
  have h1 := HZ1.out
  have h4 := HZ4.out
  rintro (hm | h | h | h)
  ·have := HTW.out.lt hm; rw [hN.out] at this; omega
  ·omega
  ·omega
  ·omega
 case sI => intro i Fq; exact BoxRow.stab Fq
 case sX => intro c Fq A B h _; exact h
 case start => exact ⟨_, HX4.out, ⟨by simp, .inl ⟨rfl, rfl⟩⟩, rfl, fun b h => by simp [Value.ownBlock] at h⟩
 case assign =>
  intro l' x W' K hK
  dsimp only [encV]
  gi_wp2
  exact hK
 case stop => rintro c W5 ⟨Fq, _, _, hf, _⟩; exact hf.elim
 case body =>
  rintro l' i ⟨xi, xl⟩ Fq W' hx ⟨v, hb, hrow, hf, hv⟩ hW' hF
  have hil : i < xs.length := (List.getElem?_eq_some_iff.1 hx).1
  have fb := cell_row hb 0 _ rfl
  obtain ⟨Wa, hWa⟩ : ∃ Wa, Hid (Wa = W'.alloc (.cells #[.int .i64 xi] 3)) := ⟨_, rfl⟩
  have hba : Below W'.heap.size W' Wa := by rw [hWa.out]; exact (Below.refl _ W').alloc (Nat.le_refl _) _
  have hXa : Wa.heap[W'.heap.size]? = some (.cells #[.int .i64 xi] 3 (0, 0)) := by rw [hWa.out]; exact heap_alloc_new W' _
  have hrowa : Wa.ownsRow 0 3 1 v i ((xs.take i).map fun x => Value.int .i64 x.1) := row_block hrow fun b hb => hba.block b (row_lt hrow hb)
  obtain ⟨v', w', hr, hrow', hg', hf'⟩ := run_appendG (P := Tryz.prog) Wa 43 43 3 (.int .i64 0) 1 8 Tryz.underlying43 infoInt rfl (by decide) (by decide) v i _ hrowa ⟨W'.heap.size, 0, none⟩ 1 1 [.int .i64 xi] (by decide) rfl (by
   intro j u0 hj
   rw [add_zero_block]
   cases j with
   | zero => simp at hj; subst hj; exact cell_row hXa 0 _ rfl
   | succ j => simp at hj) (by intro u hu; simp at hu; subst hu; rfl) (by omega) (by decide)
  rw [hWa.out] at hr
  obtain ⟨pa, pn, pc, rfl⟩ : ∃ pa pn pc, v' = .slice pa pn pc := by
   rcases hrow'.2 with ⟨h, _⟩ | ⟨_, _, _, h, _⟩
   ·exact ⟨_, _, _, h⟩
   ·exact ⟨_, _, _, h⟩
  have hvb : v.ownBlock ≠ some N := row_not hrow hb (fun cur h => by injection h with _ h _; exact absurd h (by decide))
  have hfin := box_left (e := 3) (size := 1) (n := i + 1) (xs := (xs.take (i + 1)).map fun x => Value.int .i64 x.1) hb hf hv hF (by have := HB4.out.size; rw [hN.out] at this; omega) (by decide) hba hg' hf' hvb (by
   rw [List.take_add_one, hx]; simpa using hrow')
  have hbw : w'.heap[N]? = some (.cells #[v] 43 (0, 0)) := (hg'.block N (Nat.lt_of_lt_of_le (hF _ hf) hba.size) (fun h => hvb h.symm)).trans ((hba.block N (hF _ hf)).trans hb)
  have fw := cell_row hbw 0 _ rfl
  have HBW := Lib.hid hbw
  have fw2 := free_row hbw 0
  have HFIN := Lib.hid hfin
  clear hb hrow hf hv hba hXa hrowa hrow' hg' hf' hvb hfin hF hW' hx
  gi_wp2_with (gi_at_builtin; refine wpListIn_append_runI _ rfl _ _ 43 rfl v (.slice (some ⟨W'.heap.size, 0, none⟩) 1 1) (by simp [Act.eval]) (by simp [Act.eval]) hr ?_)
  rw [setCell_box HBW.out]
  exact HFIN.out
 case done =>
  rintro W5 ⟨Fq, r1, r2, ⟨v, hb, hrow, hf, hv⟩, qn⟩ hK5
  have fb := cell_row hb 0 _ rfl
  have HR1 := Lib.hid r1
  have HROW := Lib.hid hrow
  have HV := Lib.hid hv
  have HBX := Lib.hid hb
  have hne : Hid (v.ownBlock ≠ some w4.heap.size) := fun h => qn (hv _ h).1
  have HK5 := Lib.hid hK5
  obtain ⟨A, c, hvs, _⟩ := row_shape hrow
  subst hvs
  clear r1 r2 hb hrow hf hv qn hK5
  gi_wp2
  refine wpIn_wide.2 ?_
  obtain ⟨ids, hids⟩ : ∃ ids, Hid (xs.map (·.1) = ids) := ⟨_, rfl⟩
  obtain ⟨M, hM⟩ : ∃ M, Hid (xs.length = M) := ⟨_, rfl⟩
  have hidl : Hid (ids.length = M) := by show _ = _; rw [← hids.out, List.length_map, hM.out]
  have hROW : Hid (intRow W5 (.slice A M c) ids) := by
   have h1 := HROW.out
   rw [List.take_length] at h1
   show W5.ownsRow 0 3 1 _ ids.length (ids.map (Value.int .i64))
   rw [hidl.out, ← hids.out, List.map_map, ← hM.out]
   exact h1
  have hVV : Hid (∀ b, (Value.slice A M c).ownBlock = some b → N ≤ b) := fun b hb => (HV.out b (by rw [hM.out]; exact hb)).2
  have hne' : Hid ((Value.slice A M c).ownBlock ≠ some w4.heap.size) := by rw [← hM.out]; exact hne.out
  have hT5 : Hid (TreeAt W5 t mb y1 g1 root next n) := HT4.out.keep fun b hb => HR1.out.1.block b (HT4.out.lt hb) (fun e' => by have := HTW.out.lt hb; rw [hN.out] at this; omega)
  have hmbN : Hid (mb < N) := by have := HTW.out.lt (.inr (.inl rfl)); rw [hN.out] at this; exact this
  rw [hM.out]
  have hMM : M ≤ 1000000 := by rw [← hM.out]; exact hxs
  have hxg' : Hid (∀ x ∈ ids, ∃ e, g1 x = some e) := by
   intro x hx
   rw [← hids.out] at hx
   obtain ⟨q, hq, rfl⟩ := List.mem_map.1 hx
   exact hxg q hq
  rw [hids.out] at hnd
  have hND := Lib.hid hnd
  clear hnd hxs hxg fb HROW HV hne
  go_loopw [44] (fun i wr => ∃ j : Nat, i = .int .i64 (j : Int) ∧ j ≤ M ∧ Hid (TreeAt wr t mb y1 (remG g1 (ids.take j)) root next (n - j)) ∧ Hid (Turn (fun b => b = mb) W5 wr)) (fun i _ => M - (intOf i).toNat)
  case atStart => exact ⟨0, rfl, Nat.zero_le _, by
   have e0 : remG g1 (ids.take 0) = g1 := by funext x; simp [remG]
   show TreeAt _ _ _ _ _ _ _ _
   rw [e0]; exact hT5.out, Turn.refl _ _⟩
  case round =>
   obtain ⟨j, rfl, hj, ht, htu⟩ := hrel
   have j0 : (0 : Int) ≤ (j : Int) := by omega
   have hmb5 : mb < W5.heap.size := by have := hT5.out.lt (.inr (.inl rfl)); exact this
   have hrowr : intRow wr (.slice A M c) ids := row_block hROW.out fun b hb => htu.out.block b (row_lt hROW.out hb) (fun e' => by have := hVV.out b hb; have := hmbN.out; omega)
   by_cases hjm : j < M
   ·have hjm' : (j : Int) < (M : Int) := by omega
    obtain ⟨x, hx⟩ : ∃ x, ids[j]? = some x := ⟨_, List.getElem?_eq_getElem (by rw [hidl.out]; exact hjm)⟩
    have hxm : x ∈ ids := List.mem_of_getElem? hx
    obtain ⟨e1, he1⟩ := hxg'.out x hxm
    have hnot : x ∉ ids.take j := fun h => by
     obtain ⟨i', hi', he'⟩ := List.getElem_of_mem h
     rw [List.length_take] at hi'
     rw [List.getElem_take] at he'
     have hjl : j < ids.length := by rw [hidl.out]; exact hjm
     have hx' : ids[j] = x := by rw [List.getElem?_eq_getElem hjl] at hx; injection hx
     exact (List.pairwise_iff_getElem.1 hND.out i' j (by omega) hjl (by omega)) (by rw [he', hx'])
    have hgx : remG g1 (ids.take j) x = some e1 := by unfold remG; rw [if_neg hnot]; exact he1
    have hwx : wfI x := hwf1 x e1 he1
    obtain ⟨w6, hdel, hmp, hgw⟩ := ht.out.map.del hwx (by rw [hgx]; rfl) 0
    obtain ⟨q1, q2⟩ := ht.out.rem hmp hgw
    have hre : fset (remG g1 (ids.take j)) x none = remG g1 (ids.take (j + 1)) := by
     funext z
     rw [List.take_add_one, hx]
     unfold remG
     by_cases hz : z = x
     ·subst hz; rw [fset_same, if_pos (by simp)]
     ·rw [fset_other _ _ hz]
      simp [hz]
    rw [hre] at q1
    have HT6 : Hid (TreeAt w6 t mb y1 (remG g1 (ids.take (j + 1))) root next (n - (j + 1))) := q1
    have HU6 : Hid (Turn (fun b => b = mb) W5 w6) := ⟨hgw.os.trans htu.out.os, hgw.tape.trans htu.out.tape, hgw.output.trans htu.out.output, Nat.le_trans htu.out.size hgw.size, fun b hb hne => (hgw.block b (Nat.lt_of_lt_of_le hb htu.out.size) (fun h => hne (by injection h))).trans (htu.out.block b hb hne)⟩
    have c0 := ht.out.c0
    cases A with
    | none => have := (row_shape hrowr); obtain ⟨_, _, hh, _, _, h0, _⟩ := this; injection hh with hh; rw [← hh] at h0; have := (h0 rfl).1; rw [hidl.out] at this; omega
    | some ad =>
     obtain ⟨_, _, hh, _, _, _, h1⟩ := row_shape hrowr
     injection hh with hh _ _
     obtain ⟨b, rfl, hbl⟩ := h1 ad hh.symm
     have hrow2 : wr.ownsRow 0 3 1 (.slice (some ⟨b, 0, none⟩) M c) M (ids.map (Value.int .i64)) := by
      have := hrowr
      unfold intRow at this
      rw [hidl.out] at this
      exact this
     have cx := own_cell hrow2 j (.int .i64 x) (by rw [List.getElem?_map, hx]; rfl)
     clear ht htu hrowr hxm he1 hnot hgx hmp hgw q1 q2 hre hh h1 hrow2 hx
     go_wp2_with (at_builtin; refine wpList_delete_runI _ rfl _ _ 73 3 rfl _ _ (by simp [Act.eval]; rfl) (by simp [Act.eval]; rfl) hdel ?_)
     go_roundw
     case rel => exact ⟨j + 1, by go_num, by omega, HT6, HU6⟩
     case measure => simp [intOf]; omega
   ·have hjm' : j = M := by omega
    subst hjm'
    have hids2 : Hid (ids.take j = ids) := List.take_of_length_le (by rw [hidl.out]; exact Nat.le_refl _)
    have HT6 := Lib.hid ht.out
    have HU6 := Lib.hid htu.out
    clear ht htu hrowr
    go_wp2_with fail
    gi_wp2
    have hkd : wr.heap[w4.heap.size]? = some (.deferred (some [])) := (HU6.out.block _ (Array.getElem?_eq_some_iff.1 HK5.out).1 (fun e' => by have := hmbN.out; have := HZ1.out; have := HZ4.out; omega)).trans HK5.out
    refine marks_leave [w4.heap.size] wr (by simp) (fun b hb => by simp at hb; subst hb; exact hkd) (fun w' hw' => ⟨_, results_tmp Tryz.results30 _ _ _, rfl, mb, y1, ?_, ?_⟩)
    ·rw [hids.out, hM.out]
     have h6 := HT6.out
     rw [hids2.out] at h6
     refine h6.keep fun b hb => hw'.block b (h6.lt hb) (fun hm => ?_)
     simp at hm
     have h1 : Mine t mb y1 g1 b := by
      rcases hb with hb | hb | ⟨z, ez, hz, hb⟩
      ·exact .inl hb
      ·exact .inr (.inl hb)
      ·refine .inr (.inr ⟨z, ez, ?_, hb⟩)
       unfold remG at hz
       by_cases hzi : z ∈ ids
       ·rw [if_pos hzi] at hz; cases hz
       ·rw [if_neg hzi] at hz; exact hz
     have := HTW.out.lt h1
     have := HZ1.out
     have := HZ4.out
     have := hN.out
     omega
    ·refine HGR0.out.trans ⟨?_, fun b hb => .inl ?_⟩
     ·have h1 := HR1.out.1
      have h4 := HB4.out
      have hu := HU6.out
      have hz1 := HZ1.out
      have hz4 := HZ4.out
      have hn := hN.out
      refine ⟨hw'.os.trans (hu.os.trans (h1.os.trans h4.os)), hw'.tape.trans (hu.tape.trans (h1.tape.trans h4.tape)), hw'.output.trans (hu.output.trans (h1.output.trans h4.output)), ?_, fun b hb hm => ?_⟩
      ·have := hw'.size; have := hu.size; have := h1.size; omega
      ·have s1 := h1.size
       have s2 := hu.size
       have s3 := h4.size
       rw [hw'.block b (by omega) (fun hm => by simp at hm; omega), hu.block b (by omega) (fun e' => hm (.inr (.inl e'))), h1.block b (by omega) (fun e' => by omega), h4.block b (by omega)]
     ·rcases hb with hb | hb | ⟨z, ez, hz, hb⟩
      ·exact .inl hb
      ·exact .inr (.inl hb)
      ·refine .inr (.inr ⟨z, ez, ?_, hb⟩)
       unfold remG at hz
       by_cases hzi : z ∈ xs.map (·.1)
       ·rw [if_pos hzi] at hz; cases hz
       ·rw [if_neg hzi] at hz; exact hz
end
end
section
namespace Fo
theorem sub_ent : ∀ (f : Fo) (p lv q : Int) (l : Int) (d : NodeD) (ks : Fo), f.ids.Nodup → f.sub p lv = some (l, d, ks) →
  (∃ q', f.ent q p = some ⟨q', d, ks.roots⟩ ∧ (q' = q ∨ q' ∈ f.ids)) ∧ (∀ x ∈ ks.ids, f.ent q x = ks.ent p x) ∧ ks.ids.Nodup ∧ p ∉ ks.ids ∧ (∀ x ∈ ks.ids, x ∈ f.ids) ∧ ks.cnt < f.cnt ∧ (f.Leaf → ks.Leaf ∧ (d.kind = 2 → ks = nil))
 | nil, _, _, _, _, _, _, _, h => by simp [sub] at h
 | cons id d0 ks0 r, p, lv, q, l, d, ks, hn, h => by
  simp only [ids, List.nodup_cons, List.nodup_append, List.mem_append, not_or] at hn
  obtain ⟨⟨hk, hr⟩, nk, nr, hd⟩ := hn
  rw [sub] at h
  by_cases e : id = p
  ·rw [if_pos e] at h
   injection h with h; injection h with h1 h; injection h with h2 h3
   subst h1; subst h2; subst h3; subst e
   refine ⟨⟨q, by rw [ent, if_pos rfl], .inl rfl⟩, fun x hx => ?_, nk, hk, fun x hx => by simp [ids, hx], by simp [cnt]; omega, fun hl => ⟨hl.2.1, hl.1⟩⟩
   have hxi : x ≠ id := by rintro rfl; exact hk hx
   rw [ent, if_neg hxi]
   obtain ⟨e, he⟩ := ent_some ks0 id x hx
   rw [he]
  ·rw [if_neg e] at h
   cases hs : ks0.sub p (lv + 1) with
   | some y =>
    rw [hs] at h
    injection h with h
    subst h
    have hpk := sub_mem ks0 p _ _ hs
    obtain ⟨⟨q', h1, h2⟩, h3, h4, h5, h6, h7, h8⟩ := sub_ent ks0 p (lv + 1) id l d ks nk hs
    refine ⟨⟨q', ?_, ?_⟩, fun x hx => ?_, h4, h5, fun x hx => by simp [ids, h6 x hx], by simp [cnt]; omega, fun hl => h8 hl.2.1⟩
    ·rw [ent, if_neg (fun h => e h.symm), h1]
    ·rcases h2 with h2 | h2
     ·exact .inr (by simp [ids, h2])
     ·exact .inr (by simp [ids, h2])
    ·have hxk := h6 x hx
     have hxi : x ≠ id := by rintro rfl; exact hk hxk
     rw [ent, if_neg hxi, h3 x hx]
     obtain ⟨e, he⟩ := ent_some ks p x hx
     rw [he]
   | none =>
    rw [hs] at h
    have hpk := sub_none ks0 p _ hs
    obtain ⟨⟨q', h1, h2⟩, h3, h4, h5, h6, h7, h8⟩ := sub_ent r p lv q l d ks nr h
    refine ⟨⟨q', ?_, ?_⟩, fun x hx => ?_, h4, h5, fun x hx => by simp [ids, h6 x hx], by simp [cnt]; omega, fun hl => h8 hl.2.2⟩
    ·rw [ent, if_neg (fun h => e h.symm), ent_not ks0 id p hpk]
     exact h1
    ·rcases h2 with h2 | h2
     ·exact .inl h2
     ·exact .inr (by simp [ids, h2])
    ·have hxr := h6 x hx
     have hxi : x ≠ id := by rintro rfl; exact hr hxr
     rw [ent, if_neg hxi, ent_not ks0 id x (fun h' => hd x h' x hxr rfl)]
     exact h3 x hx
theorem lev_of {g : Int → Option Ent} {p : Int} : ∀ (f : Fo) (q : Int) (lv : Nat) (l : Int) (d : NodeD) (ks : Fo), Agr g q f → (q = 0 ∧ lv = 0 ∨ q ≠ 0 ∧ ∃ m, lv = m + 1 ∧ Lev g m q) → (∀ x ∈ f.ids, x ≠ 0) → f.sub p (lv : Int) = some (l, d, ks) → Lev g l.toNat p
 | nil, _, _, _, _, _, _, _, _, h => by simp [sub] at h
 | cons id d0 ks0 r, q, lv, l, d, ks, ha, hq, h0, h => by
  obtain ⟨a1, a2, a3⟩ := ha
  have hid : Lev g lv id := by
   rcases hq with ⟨rfl, rfl⟩ | ⟨hq0, m, rfl, hm⟩
   ·exact ⟨_, a1, rfl⟩
   ·exact ⟨_, a1, hq0, hm⟩
  rw [sub] at h
  by_cases e : id = p
  ·rw [if_pos e] at h
   injection h with h; injection h with h1 h
   rw [← h1, ← e]
   simpa using hid
  ·rw [if_neg e] at h
   cases hs : ks0.sub p (lv + 1 : Int) with
   | some y =>
    rw [hs] at h
    injection h with h
    subst h
    exact lev_of ks0 id (lv + 1) l d ks a2 (.inr ⟨h0 id (by simp [ids]), lv, rfl, hid⟩) (fun x hx => h0 x (by simp [ids, hx])) (by simpa using hs)
   | none =>
    rw [hs] at h
    exact lev_of r q lv l d ks a3 hq (fun x hx => h0 x (by simp [ids, hx])) h
theorem par_ahead : ∀ (f : Fo) (p lv q l : Int) (d : NodeD) (ks : Fo), f.ids.Nodup → f.sub p lv = some (l, d, ks) → ∃ A T q', f.flat lv = A ++ ⟨p, d.at l⟩ :: T ∧ (∀ r ∈ A, r.id ≠ p) ∧ f.ent q p = some ⟨q', d, ks.roots⟩ ∧ ∀ a, (l = lv → a = q) → lastL (l - 1) a A = q'
 | nil, _, _, _, _, _, _, _, h => by simp [sub] at h
 | cons id d0 ks0 r, p, lv, q, l, d, ks, hn, h => by
  simp only [ids, List.nodup_cons, List.nodup_append, List.mem_append, not_or] at hn
  obtain ⟨⟨hk, hr⟩, nk, nr, hd⟩ := hn
  rw [sub] at h
  by_cases e : id = p
  ·rw [if_pos e] at h
   injection h with h; injection h with h1 h; injection h with h2 h3
   subst h1; subst h2; subst h3; subst e
   exact ⟨[], _, q, rfl, by simp, by rw [ent, if_pos rfl], fun a ha => ha rfl⟩
  ·rw [if_neg e] at h
   cases hs : ks0.sub p (lv + 1) with
   | some y =>
    rw [hs] at h
    injection h with h
    subst h
    obtain ⟨A, T, q', h1, h2, h3, h4⟩ := par_ahead ks0 p (lv + 1) id l d ks nk hs
    refine ⟨⟨id, d0.at lv⟩ :: A, T ++ r.flat lv, q', by rw [flat, h1]; simp, ?_, by rw [ent, if_neg (fun h => e h.symm), h3], fun a ha => ?_⟩
    ·intro x hx
     rcases List.mem_cons.1 hx with rfl | hx
     ·exact e
     ·exact h2 x hx
    ·rw [lastL]
     refine h4 _ fun hl => ?_
     rw [if_pos]
     rw [at_level]; omega
   | none =>
    rw [hs] at h
    have hpk := sub_none ks0 p _ hs
    have hll : lv ≤ l := by
     obtain ⟨_, _, _, _, _, h4, _⟩ := split_at r p lv nr l d ks h
     exact h4
    obtain ⟨A, T, q', h1, h2, h3, h4⟩ := par_ahead r p lv q l d ks nr h
    refine ⟨⟨id, d0.at lv⟩ :: (ks0.flat (lv + 1) ++ A), T, q', by rw [flat, h1]; simp, ?_, by rw [ent, if_neg (fun h => e h.symm), ent_not ks0 id p hpk]; exact h3, fun a ha => ?_⟩
    ·intro x hx
     rcases List.mem_cons.1 hx with rfl | hx
     ·exact e
     rcases List.mem_append.1 hx with hx | hx
     ·intro hx'
      refine hpk ?_
      rw [← flat_ids ks0 (lv + 1), ← hx']
      exact List.mem_map_of_mem hx
     ·exact h2 x hx
    ·rw [lastL, lastL_app]
     refine h4 _ fun hl => ?_
     rw [if_neg (by rw [at_level]; omega), lastL_high _ _ _ (fun z hz => by have := flat_ge ks0 (lv + 1) z hz; omega)]
     exact ha hl
theorem ahead_one : ∀ (A A' T T' : List RowD) (r r' : RowD) (p : Int), (∀ x ∈ A, x.id ≠ p) → (∀ x ∈ A', x.id ≠ p) → r.id = p → r'.id = p → A ++ r :: T = A' ++ r' :: T' → A = A' ∧ r = r' ∧ T = T'
 | [], [], T, T', r, r', p, _, _, _, _, h => by simpa using h
 | [], a :: A', T, T', r, r', p, _, h2, h3, _, h => by
  simp at h
  exact absurd (h.1 ▸ h3) (h2 a (by simp))
 | a :: A, [], T, T', r, r', p, h1, _, _, h4, h => by
  simp at h
  exact absurd (h.1 ▸ h4) (h1 a (by simp))
 | a :: A, a' :: A', T, T', r, r', p, h1, h2, h3, h4, h => by
  simp only [List.cons_append, List.cons.injEq] at h
  obtain ⟨q1, q2, q3⟩ := ahead_one A A' T T' r r' p (fun x hx => h1 x (by simp [hx])) (fun x hx => h2 x (by simp [hx])) h3 h4 h.2
  exact ⟨by rw [h.1, q1], q2, q3⟩
/-! ### A node gone -/
theorem roots_del : ∀ (f : Fo) (p : Int), f.ids.Nodup → (f.del p).roots = f.roots.erase p
 | nil, _, _ => rfl
 | cons id d ks r, p, hn => by
  simp only [ids, List.nodup_cons, List.nodup_append, List.mem_append, not_or] at hn
  obtain ⟨⟨hk, hr⟩, nk, nr, hd⟩ := hn
  rw [del]
  by_cases e : id = p
  ·rw [if_pos e, roots, e, List.erase_cons_head]
  ·rw [if_neg e, roots, roots, List.erase_cons_tail (by simpa using e), roots_del r p nr]
theorem roots_sub : ∀ (f : Fo) (x : Int), x ∈ f.roots → x ∈ f.ids
 | nil, _, h => by simp [roots] at h
 | cons id d ks r, x, h => by
  simp only [roots, List.mem_cons] at h
  rcases h with h | h
  ·simp [ids, h]
  ·simp [ids, roots_sub r x h]
theorem ent_del : ∀ (f : Fo) (p lv q l : Int) (d : NodeD) (ks : Fo) (e : Ent), f.ids.Nodup → q ∉ f.ids → f.sub p lv = some (l, d, ks) → f.ent q p = some e →
  ∀ x, (f.del p).ent q x = if x = p ∨ x ∈ ks.ids then none else if x = e.par then (f.ent q x).map (fun e => { e with kids := e.kids.erase p }) else f.ent q x
 | nil, _, _, _, _, _, _, _, _, _, h, _, _ => by simp [sub] at h
 | cons id d0 ks0 r, p, lv, q, l, d, ks, e0, hn, hq, h, he0, x => by
  have hn' := hn
  simp only [ids, List.nodup_cons, List.nodup_append, List.mem_append, not_or] at hn
  obtain ⟨⟨hk, hr⟩, nk, nr, hd⟩ := hn
  simp only [ids, List.mem_cons, List.mem_append, not_or] at hq
  obtain ⟨hqi, hqk, hqr⟩ := hq
  rw [sub] at h
  by_cases e : id = p
  ·rw [if_pos e] at h
   injection h with h; injection h with h1 h; injection h with h2 h3
   subst h1; subst h2; subst h3; subst e
   rw [ent, if_pos rfl] at he0
   injection he0 with he0
   rw [del, if_pos rfl, ← he0]
   by_cases hx : x = id ∨ x ∈ ks0.ids
   ·rw [if_pos hx]
    refine ent_not r q x fun hxr => ?_
    rcases hx with rfl | hx
    ·exact hr hxr
    ·exact hd x hx x hxr rfl
   ·rw [if_neg hx]
    have hx1 : x ≠ id := fun h => hx (.inl h)
    have hx2 : x ∉ ks0.ids := fun h => hx (.inr h)
    rw [ent, if_neg hx1, ent_not ks0 id x hx2]
    by_cases hxq : x = q
    ·subst hxq
     rw [if_pos rfl, ent_not r x x hqr]; rfl
    ·rw [if_neg hxq]
  ·rw [if_neg e] at h
   have hpi : p ≠ id := fun h => e h.symm
   rw [ent, if_neg hpi] at he0
   rw [del, if_neg e, ent, ent]
   cases hs : ks0.sub p (lv + 1) with
   | some y =>
    rw [hs] at h
    injection h with h
    subst h
    have hpk := sub_mem ks0 p _ _ hs
    have hpr : p ∉ r.ids := fun h => hd p hpk p h rfl
    obtain ⟨ek, hek⟩ := ent_some ks0 id p hpk
    rw [hek] at he0
    injection he0 with he0
    subst he0
    obtain ⟨⟨q', h1, h2⟩, h3, h4, h5, h6, h7, h8⟩ := sub_ent ks0 p (lv + 1) id l d ks nk hs
    rw [hek] at h1
    injection h1 with h1
    have hpar : ek.par = q' := by rw [h1]
    have ih := ent_del ks0 p (lv + 1) id l d ks ek nk hk hs hek x
    rw [del_not r p hpr]
    by_cases hx : x = id
    ·subst hx
     rw [if_pos rfl, if_pos rfl, if_neg (by rintro (h | h); exact hpi h.symm; exact hk (h6 _ h))]
     by_cases hxp : x = ek.par
     ·rw [if_pos hxp, roots_del ks0 p nk]; rfl
     ·rw [if_neg hxp, roots_del ks0 p nk]
      have hnr : p ∉ ks0.roots := fun hpr' => by
       obtain ⟨e', he', hep⟩ : ∃ e', ks0.ent x p = some e' ∧ e'.par = x := by
        have : ∀ (F : Fo) (z : Int), F.ids.Nodup → z ∈ F.roots → ∃ e', F.ent x z = some e' ∧ e'.par = x := by
         intro F
         induction F with
         | nil => intro z _ h; simp [roots] at h
         | cons i dd kk rr ih1 ih2 =>
          intro z hnn hz
          simp only [ids, List.nodup_cons, List.nodup_append, List.mem_append, not_or] at hnn
          simp only [roots, List.mem_cons] at hz
          rw [ent]
          by_cases hzi : z = i
          ·exact ⟨_, by rw [if_pos hzi], rfl⟩
          ·rw [if_neg hzi]
           rcases hz with hz | hz
           ·exact absurd hz hzi
           ·obtain ⟨e', a, b⟩ := ih2 z hnn.2.2.1 hz
            refine ⟨e', ?_, b⟩
            rw [ent_not kk i z (fun h' => hnn.2.2.2 z h' z (roots_sub rr z hz) rfl)]
            exact a
        exact this ks0 p nk hpr'
       rw [hek] at he'
       injection he' with he'
       exact hxp (by rw [he', hep])
      rw [List.erase_of_not_mem hnr]
    ·rw [if_neg hx, if_neg hx, ih]
     by_cases hxk : x = p ∨ x ∈ ks.ids
     ·rw [if_pos hxk, if_pos hxk]
      refine ent_not r q x fun hxr => ?_
      rcases hxk with rfl | hxk
      ·exact hpr hxr
      ·exact hd x (h6 x hxk) x hxr rfl
     ·rw [if_neg hxk, if_neg hxk]
      by_cases hxp : x = ek.par
      ·rw [if_pos hxp, if_pos hxp]
       cases hkx : ks0.ent id x with
       | some e' => rfl
       | none =>
        have : r.ent q x = none := by
         refine ent_not r q x fun hxr => ?_
         rcases h2 with h2 | h2
         ·exact hx (by rw [hxp, hpar, h2])
         ·rw [← hpar, ← hxp] at h2
          exact hd x h2 x hxr rfl
        simp [this]
      ·rw [if_neg hxp, if_neg hxp]
   | none =>
    rw [hs] at h
    have hpk := sub_none ks0 p _ hs
    rw [ent_not ks0 id p hpk] at he0
    obtain ⟨⟨q', h1, h2⟩, h3, h4, h5, h6, h7, h8⟩ := sub_ent r p lv q l d ks nr h
    have he0' : r.ent q p = some e0 := he0
    rw [he0'] at h1
    injection h1 with h1
    have hpar : e0.par = q' := by rw [h1]
    have ih := ent_del r p lv q l d ks e0 nr hqr h he0' x
    have hparn : e0.par ≠ id := by
     rw [hpar]
     rcases h2 with h2 | h2
     ·rw [h2]; exact hqi
     ·intro h'; exact hr (h' ▸ h2)
    rw [del_not ks0 p hpk]
    by_cases hx : x = id
    ·subst hx
     rw [if_pos rfl, if_pos rfl, if_neg (by rintro (h | h); exact hpi h.symm; exact hr (h6 _ h)), if_neg (fun h => hparn h.symm)]
    ·rw [if_neg hx, if_neg hx]
     cases hkx : ks0.ent id x with
     | some e' =>
      have hxk := ent_mem _ _ _ _ hkx
      rw [if_neg, if_neg]
      ·intro h'
       rw [h', hpar] at hxk
       rcases h2 with h2 | h2
       ·exact hqk (h2 ▸ hxk)
       ·exact hd q' hxk q' h2 rfl
      ·rintro (h | h)
       ·exact hpk (h ▸ hxk)
       ·exact hd x hxk x (h6 x h) rfl
     | none =>
      rw [ih]
end Fo
end
section
def rootF : Fo → Int
 | .nil => 0
 | .cons id _ _ _ => id
structure InvF (f : Fo) (next : Int) : Prop where
 nd : f.ids.Nodup
 rng : ∀ x ∈ f.ids, 1 ≤ x ∧ x < next
 nx : 1 ≤ next ∧ next ≤ 2147483647
 one : ∀ id d ks r, f = .cons id d ks r → r = .nil ∧ d.kind = 1
 leaf : f.Leaf
 ok : ∀ r ∈ f.flat 0, r.x.level < 40 ∧ partsE r.x = 0
 cnt : f.cnt ≤ 1000
theorem InvF.new : InvF .nil 1 := ⟨by simp [Fo.ids], by simp [Fo.ids], by omega, (fun _ _ _ _ h => (by cases h)), trivial, by simp [Fo.flat], by simp [Fo.cnt]⟩
theorem roots_le : ∀ f : Fo, f.roots.length ≤ f.cnt
 | .nil => Nat.le_refl _
 | .cons id d ks r => by have := roots_le r; simp [Fo.roots, Fo.cnt]; omega
theorem roots_nodup : ∀ f : Fo, f.ids.Nodup → f.roots.Nodup
 | .nil, _ => by simp [Fo.roots]
 | .cons id d ks r, h => by
  simp only [Fo.ids, List.nodup_cons, List.nodup_append, List.mem_append, not_or] at h
  obtain ⟨⟨hk, hr⟩, nk, nr, hd⟩ := h
  simp only [Fo.roots, List.nodup_cons]
  exact ⟨fun h' => hr (Fo.roots_sub r id h'), roots_nodup r nr⟩
structure Stand (f : Fo) (p lv : Int) (d : NodeD) (ks : Fo) (A B : List RowD) : Prop where
 sub : f.sub p 0 = some (lv, d, ks)
 flat : f.flat 0 = A ++ ⟨p, d.at lv⟩ :: (ks.flat (lv + 1) ++ B)
 ahead : ∀ r ∈ A, r.id ≠ p
 behind : ∀ r ∈ B.head?, r.x.level ≤ lv
 lv0 : 0 ≤ lv
 upd : ∀ g, (f.upd p g).flat 0 = A ++ ⟨p, d.at lv⟩ :: ((g ks).flat (lv + 1) ++ B)
 set : ∀ h, (f.setD p h).flat 0 = A ++ ⟨p, (h d).at lv⟩ :: (ks.flat (lv + 1) ++ B)
 del : (f.del p).flat 0 = A ++ B
theorem stand_of {f : Fo} {p : Int} (hn : f.ids.Nodup) (h : p ∈ f.ids) : ∃ lv d ks A B, Stand f p lv d ks A B := by
 obtain ⟨⟨lv, d, ks⟩, hs⟩ := Fo.sub_of_mem f p 0 h
 obtain ⟨A, B, h1, h2, h3, h4, h5, h6, h7⟩ := Fo.split_at f p 0 hn lv d ks hs
 exact ⟨lv, d, ks, A, B, hs, h1, h2, h3, h4, h5, h6, h7⟩
section
variable {f : Fo} {p lv : Int} {d : NodeD} {ks : Fo} {A B : List RowD}
theorem Stand.high (_h : Stand f p lv d ks A B) : ∀ z ∈ ks.flat (lv + 1), (⟨p, d.at lv⟩ : RowD).x.level < z.x.level := fun z hz => by
 have := Fo.flat_ge ks (lv + 1) z hz
 have e : (⟨p, d.at lv⟩ : RowD).x.level = lv := rfl
 omega
theorem Stand.low (h : Stand f p lv d ks A B) : ∀ z ∈ B.head?, z.x.level ≤ (⟨p, d.at lv⟩ : RowD).x.level := h.behind
theorem Stand.find (h : Stand f p lv d ks A B) : findL (f.flat 0) p = some A.length := by rw [h.flat]; exact find_at A _ _ p h.ahead rfl
theorem Stand.get (h : Stand f p lv d ks A B) : (f.flat 0)[A.length]? = some ⟨p, d.at lv⟩ := by rw [h.flat]; exact get_at A _ _
theorem Stand.lvl (h : Stand f p lv d ks A B) : lvlL (f.flat 0) A.length = lv := by rw [h.flat, lvl_at]; rfl
theorem Stand.below (h : Stand f p lv d ks A B) : belowL (f.flat 0) A.length = ks.flat (lv + 1) := by rw [h.flat]; exact below_at h.high h.low
theorem Stand.kids (h : Stand f p lv d ks A B) : kidsL (f.flat 0) A.length = offs (A.length + 1) ks := by
 unfold kidsL
 rw [h.lvl, h.below, pos_flat]
theorem Stand.kids_len (h : Stand f p lv d ks A B) : (kidsL (f.flat 0) A.length).length = ks.roots.length := by rw [h.kids, offs_len]
theorem Stand.end (h : Stand f p lv d ks A B) : endL (f.flat 0) A.length = A.length + 1 + ks.cnt := by
 rw [h.flat, end_at h.high h.low, Fo.flat_len]
theorem Stand.part (h : Stand f p lv d ks A B) : ((f.flat 0).drop A.length).take (endL (f.flat 0) A.length - A.length) = ⟨p, d.at lv⟩ :: ks.flat (lv + 1) := by rw [h.flat]; exact part_at h.high h.low
theorem Stand.without (h : Stand f p lv d ks A B) : withoutL (f.flat 0) A.length = (f.del p).flat 0 := by rw [h.del, h.flat]; exact without_at h.high h.low
theorem Stand.laid (h : Stand f p lv d ks A B) (pl : Nat) (hpl : pl ≤ ks.roots.length) (F : Fo) : laidL (f.flat 0) (spotL (f.flat 0) A.length pl) (F.flat (lv + 1)) = (f.upd p (Fo.insAt pl F)).flat 0 := by
 obtain ⟨X, Y, h1, h2, h3, h4⟩ := Fo.insAt_flat pl F ks
 have hX : X.roots.length = pl := by rw [h3]; simp; omega
 have hspot : spotL (f.flat 0) A.length pl = A.length + 1 + X.cnt := by
  unfold spotL
  rw [h.kids, h.end]
  have := offs_get X Y (A.length + 1)
  rw [hX, ← h1] at this
  rw [this]
  cases Y with
  | nil => rw [h1, Fo.app_nil]
  | cons _ _ _ _ => rfl
 rw [hspot, h.upd, h.flat, h2, Fo.flat_app, Fo.flat_app]
 have hk : ks.flat (lv + 1) = X.flat (lv + 1) ++ Y.flat (lv + 1) := by rw [h1, Fo.flat_app]
 rw [hk]
 unfold laidL
 have e1 : A ++ ⟨p, d.at lv⟩ :: (X.flat (lv + 1) ++ Y.flat (lv + 1) ++ B) = (A ++ ⟨p, d.at lv⟩ :: X.flat (lv + 1)) ++ (Y.flat (lv + 1) ++ B) := by simp
 have e2 : (A ++ ⟨p, d.at lv⟩ :: X.flat (lv + 1)).length = A.length + 1 + X.cnt := by simp [Fo.flat_len]; omega
 rw [e1, List.take_left' e2, List.drop_left' e2]
 simp
theorem Stand.ent (h : Stand f p lv d ks A B) (hn : f.ids.Nodup) : ∃ q', f.ent 0 p = some ⟨q', d, ks.roots⟩ ∧ parentL (f.flat 0) A.length = q' := by
 obtain ⟨A', T, q', h1, h2, h3, h4⟩ := Fo.par_ahead f p 0 0 lv d ks hn h.sub
 have hA := (Fo.ahead_one A A' _ _ _ _ p h.ahead h2 rfl rfl (h.flat.symm.trans h1)).1
 refine ⟨q', h3, ?_⟩
 unfold parentL
 rw [h.lvl, h.flat, List.take_left, hA]
 exact h4 0 fun _ => rfl
theorem Stand.row (h : Stand f p lv d ks A B) : (⟨p, d.at lv⟩ : RowD) ∈ f.flat 0 := by rw [h.flat]; simp
end
theorem not_stand {f : Fo} {p : Int} (h : p ∉ f.ids) : findL (f.flat 0) p = none := find_none _ _ fun r hr e => h (by rw [← Fo.flat_ids f 0, ← e]; exact List.mem_map_of_mem hr)
theorem find_ent {f : Fo} {p : Int} (h : f.ent 0 p = none) : findL (f.flat 0) p = none := not_stand fun hm => by
 obtain ⟨e, he⟩ := Fo.ent_some f 0 p hm
 rw [h] at he; cases he
section
variable {f : Fo} {next : Int}
theorem InvF.n0 (h : InvF f next) : ∀ x ∈ f.ids, x ≠ 0 := fun x hx => by have := h.rng x hx; omega
theorem InvF.q0 (h : InvF f next) : (0 : Int) ∉ f.ids := fun hx => h.n0 0 hx rfl
theorem InvF.wf (h : InvF f next) : ∀ id e, f.ent 0 id = some e → wfI id := fun id e he => by
 have := h.rng id (Fo.ent_mem _ _ _ _ he)
 have := h.nx
 exact ⟨by omega, by omega⟩
theorem InvF.stand (h : InvF f next) {p : Int} {e : Ent} (he : f.ent 0 p = some e) : ∃ lv ks A B, Stand f p lv e.d ks A B ∧ e.kids = ks.roots ∧ parentL (f.flat 0) A.length = e.par ∧ lv < 40 ∧ partsE (e.d.at lv) = 0 ∧ Lev (f.ent 0) lv.toNat p ∧ (e.d.kind = 2 → ks = .nil) := by
 obtain ⟨lv, d, ks, A, B, hs⟩ := stand_of h.nd (Fo.ent_mem _ _ _ _ he)
 obtain ⟨q', h1, h2⟩ := hs.ent h.nd
 rw [he] at h1
 injection h1 with h1
 subst h1
 have hr := h.ok _ hs.row
 refine ⟨lv, ks, A, B, hs, rfl, h2, hr.1, hr.2, ?_, ?_⟩
 ·exact Fo.lev_of f 0 0 lv d ks (Fo.agr_ent f 0 h.nd) (.inl ⟨rfl, rfl⟩) h.n0 hs.sub
 ·exact ((Fo.sub_ent f p 0 0 lv d ks h.nd hs.sub).2.2.2.2.2.2 h.leaf).2
theorem InvF.attrs (h : InvF f next) : ∀ id e, f.ent 0 id = some e → e.d.attrs.length ≤ 20 := fun id e he => by
 obtain ⟨lv, ks, A, B, hs, _, _, _, hp, _⟩ := h.stand he
 exact parts_small hp
theorem InvF.kidsN (h : InvF f next) : ∀ id e, f.ent 0 id = some e → e.kids.length ≤ 1000 := fun id e he => by
 obtain ⟨lv, ks, A, B, hs, hk, _⟩ := h.stand he
 have h1 := (Fo.sub_ent f id 0 0 lv e.d ks h.nd hs.sub).2.2.2.2.2.1
 have h2 := roots_le ks
 have := h.cnt
 rw [hk]; omega
theorem ent_par : ∀ (f : Fo) (q p : Int) (e : Ent), f.ids.Nodup → q ∉ f.ids → f.ent q p = some e → (e.par = q ∧ p ∈ f.roots) ∨ (e.par ∈ f.ids ∧ ∃ pe, f.ent q e.par = some pe ∧ p ∈ pe.kids)
 | .nil, _, _, _, _, _, h => by cases h
 | .cons id d ks r, q, p, e, hn, hq, h => by
  simp only [Fo.ids, List.nodup_cons, List.nodup_append, List.mem_append, not_or] at hn
  obtain ⟨⟨hk, hr⟩, nk, nr, hd⟩ := hn
  simp only [Fo.ids, List.mem_cons, List.mem_append, not_or] at hq
  obtain ⟨hqi, hqk, hqr⟩ := hq
  rw [Fo.ent] at h
  by_cases hp : p = id
  ·rw [if_pos hp] at h
   injection h with h
   exact .inl ⟨by rw [← h], by simp [Fo.roots, hp]⟩
  ·rw [if_neg hp] at h
   cases hkp : ks.ent id p with
   | some e' =>
    rw [hkp] at h
    injection h with h
    subst h
    rcases ent_par ks id p e' nk hk hkp with ⟨h1, h2⟩ | ⟨h1, pe, h2, h3⟩
    ·exact .inr ⟨by rw [h1]; simp [Fo.ids], _, by rw [h1, Fo.ent, if_pos rfl], h2⟩
    ·refine .inr ⟨by simp [Fo.ids, h1], pe, ?_, h3⟩
     have hne : e'.par ≠ id := fun h => hk (h ▸ h1)
     rw [Fo.ent, if_neg hne, h2]
   | none =>
    rw [hkp] at h
    rcases ent_par r q p e nr hqr h with ⟨h1, h2⟩ | ⟨h1, pe, h2, h3⟩
    ·exact .inl ⟨h1, by simp [Fo.roots, h2]⟩
    ·refine .inr ⟨by simp [Fo.ids, h1], pe, ?_, h3⟩
     have hne : e.par ≠ id := fun h => hr (h ▸ h1)
     rw [Fo.ent, if_neg hne, Fo.ent_not ks id _ (fun h' => hd _ h' _ h1 rfl)]
     exact h2
theorem InvF.rootOf (h : InvF f next) {p : Int} {e : Ent} (he : f.ent 0 p = some e) : (p = rootF f ∧ e.par = 0) ∨ (p ≠ rootF f ∧ e.par ≠ 0 ∧ e.par ∈ f.ids ∧ ∃ pe, f.ent 0 e.par = some pe ∧ p ∈ pe.kids ∧ pe.kids.Nodup) := by
 rcases ent_par f 0 p e h.nd h.q0 he with ⟨h1, h2⟩ | ⟨h1, pe, h2, h3⟩
 ·left
  refine ⟨?_, h1⟩
  cases f with
  | nil => cases he
  | cons id d ks r =>
   obtain ⟨rfl, _⟩ := h.one id d ks r rfl
   show p = id
   simpa [Fo.roots] using h2
 ·right
  obtain ⟨lv, ks, A, B, hs, hk, _⟩ := h.stand h2
  refine ⟨fun hp => ?_, h.n0 _ h1, h1, pe, h2, h3, ?_⟩
  ·cases f with
   | nil => cases he
   | cons id d ks r =>
    have hp' : p = id := hp
    rw [Fo.ent, if_pos hp'] at he
    injection he with he
    rw [← he] at h1
    exact h.q0 h1
  ·rw [hk]; exact roots_nodup ks (Fo.sub_ent f e.par 0 0 lv pe.d ks h.nd hs.sub).2.2.1
theorem Stand.first {p lv : Int} {d : NodeD} {ks : Fo} {A B : List RowD} (hs : Stand f p lv d ks A B) : A.length = 0 ↔ p = rootF f := by
 have hf := hs.flat
 cases f with
 | nil => simp [Fo.flat] at hf
 | cons id d0 ks0 r =>
  rw [Fo.flat] at hf
  constructor
  ·intro h
   have hA : A = [] := List.length_eq_zero_iff.1 h
   rw [hA, List.nil_append] at hf
   injection hf with hf _
   injection hf with hf _
   exact hf.symm
  ·intro h
   cases A with
   | nil => rfl
   | cons a A =>
    rw [List.cons_append] at hf
    injection hf with hf _
    exact absurd (by rw [← hf]; exact h.symm) (hs.ahead a (by simp))
end
end
section
theorem ids_mem (next : Int) (m : Nat) (x : Int) : x ∈ idsFrom next m ↔ next ≤ x ∧ x < next + (m : Int) := by
 unfold idsFrom
 simp only [List.mem_map, List.mem_range]
 constructor
 ·rintro ⟨j, hj, rfl⟩; omega
 ·rintro ⟨h1, h2⟩
  exact ⟨(x - next).toNat, by omega, by omega⟩
theorem ids_nodup (next : Int) (m : Nat) : (idsFrom next m).Nodup := by
 unfold idsFrom
 exact List.Pairwise.map _ (fun a b hab h => hab (by omega)) (List.nodup_range (n := m))
theorem zip_items (l : List ItemD) (is : List Int) (h : is.length = l.length) : (l.zip is).map (·.1) = l := by
 exact List.map_fst_zip (by omega)
theorem zip_ids (l : List ItemD) (is : List Int) (h : is.length = l.length) : (l.zip is).map (·.2) = is := by
 exact List.map_snd_zip (by omega)
theorem named_rows (l : List ItemD) (next : Int) : (namedL next l 0).map (·.x) = l ∧ (namedL next l 0).map (·.id) = idsFrom next l.length := by
 unfold namedL
 rw [List.map_map, List.map_map]
 constructor
 ·have : ((fun r : RowD => r.x) ∘ fun z : ItemD × Int => (⟨z.2, { z.1 with level := z.1.level + 0 }⟩ : RowD)) = fun z => z.1 := by funext z; simp
  rw [this]
  exact zip_items l _ (idsFrom_length _ _)
 ·have : ((fun r : RowD => r.id) ∘ fun z : ItemD × Int => (⟨z.2, { z.1 with level := z.1.level + 0 }⟩ : RowD)) = fun z => z.2 := rfl
  rw [this]
  exact zip_ids l _ (idsFrom_length _ _)
theorem named_more (l : List ItemD) (next more : Int) : namedL next l more = (namedL next l 0).map fun r => (⟨r.id, { r.x with level := r.x.level - (0 - more) }⟩ : RowD) := by
 unfold namedL
 rw [List.map_map]
 congr 1
 funext z
 simp only [Function.comp]
 rw [show z.1.level + 0 - (0 - more) = z.1.level + more by omega]
theorem named_build (l : List ItemD) (next : Int) (hs : Steps l) (h0 : ∀ x ∈ l, 0 ≤ x.level) (hh : ∀ x ∈ l.head?, x.level = 0) : ∃ F : Fo, (∀ lv, F.flat lv = namedL next l lv) ∧ F.Leaf ∧ prs 0 F = l.zip (idsFrom next l.length) ∧ F.ids = idsFrom next l.length ∧ F.cnt = l.length ∧ (F.flat 0).map (·.x) = l := by
 obtain ⟨n1, n2⟩ := named_rows l next
 obtain ⟨F, f1, f2⟩ := build (namedL next l 0).length (namedL next l 0) 0 (Nat.le_refl _) (fun r hr => h0 r.x (by rw [← n1]; exact List.mem_map_of_mem hr)) (fun r hr => hh r.x (by rw [← n1, List.head?_map]; rw [Option.mem_def.1 hr]; rfl)) (by rw [n1]; exact hs)
 have hids : F.ids = idsFrom next l.length := by rw [← Fo.flat_ids F 0, f1, n2]
 refine ⟨F, fun lv => ?_, f2, ?_, hids, ?_, by rw [f1, n1]⟩
 ·rw [named_more, ← f1, Fo.flat_shift, show (0 : Int) - (0 - lv) = lv by omega]
 ·unfold prs
  rw [f1]
  unfold namedL
  rw [List.map_map]
  have : ((fun r : RowD => (r.x, r.id)) ∘ fun z : ItemD × Int => (⟨z.2, { z.1 with level := z.1.level + 0 }⟩ : RowD)) = fun z => z := by funext z; simp
  rw [this, List.map_id']
 ·rw [← Fo.ids_len, hids, idsFrom_length]
theorem load_step {l : List ItemD} (hck : (checkL l).2 = 0) {next : Int} (hn : 1 ≤ next) (hm : next + (l.length : Int) ≤ 2147483647) :
  ∃ F : Fo, InvF F (next + (l.length : Int)) ∧ F.flat 0 = namedL next l 0 ∧ F.ids = idsFrom next l.length ∧ (F.flat 0).map (·.x) = l ∧ ∃ s2, growS (l.zip (idsFrom next l.length)) ⟨[0], 0, fun _ => none, 0, 0⟩ = some s2 ∧ s2.g = F.ent 0 ∧ s2.root = rootF F ∧ s2.n = F.cnt := by
 obtain ⟨x, r, hl, h0, h1, hs, hr, hok, hlen⟩ := (check_ok l).1 hck
 obtain ⟨F, f1, f2, f3, f4, f5, f6⟩ := named_build l next hs (fun z hz => by
   rw [hl] at hz
   rcases List.mem_cons.1 hz with rfl | hz
   ·omega
   ·have := hr z hz; omega) (fun z hz => by rw [hl] at hz; simp at hz; rw [← hz]; exact h0)
 have hone : ∀ id d ks rr, F = .cons id d ks rr → rr = .nil ∧ d.kind = 1 := by
  intro id d ks rr hF
  subst hF
  rw [Fo.flat, List.map_cons, List.map_append, hl] at f6
  injection f6 with g1 g2
  refine ⟨?_, ?_⟩
  ·cases rr with
   | nil => rfl
   | cons i2 d2 k2 r2 =>
    exfalso
    have hz : d2.at 0 ∈ r := by rw [← g2, Fo.flat]; simp
    have := hr _ hz
    rw [at_level] at this; omega
  ·rw [← g1] at h1; exact h1
 have hnd : F.ids.Nodup := by rw [f4]; exact ids_nodup _ _
 have hinv : InvF F (next + (l.length : Int)) := by
  refine ⟨hnd, fun x hx => ?_, by omega, hone, f2, fun z hz => ?_, by rw [f5]; exact hlen⟩
  ·rw [f4, ids_mem] at hx; omega
  ·exact hok z.x (by rw [← f6]; exact List.mem_map_of_mem hz)
 refine ⟨F, hinv, f1 0, f4, f6, ?_⟩
 cases F with
 | nil =>
  have hl0 : l = [] := f6.symm
  rw [hl0] at hl; cases hl
 | cons id d ks rr =>
  obtain ⟨rfl, _⟩ := hone id d ks rr rfl
  obtain ⟨s2, q1, q2, q3, q4⟩ := growS_root id d ks 0 0 hnd hinv.q0 0
  rw [f3] at q1
  exact ⟨s2, q1, q2, q3, by simpa using q4⟩
theorem leaf_app : ∀ X Y : Fo, (X.app Y).Leaf ↔ X.Leaf ∧ Y.Leaf
 | .nil, Y => by simp [Fo.app, Fo.Leaf]
 | .cons id d ks r, Y => by
  simp only [Fo.app, Fo.Leaf, leaf_app r Y]
  constructor
  ·rintro ⟨a, b, c, d⟩; exact ⟨⟨a, b, c⟩, d⟩
  ·rintro ⟨⟨a, b, c⟩, d⟩; exact ⟨a, b, c, d⟩
theorem leaf_ins (n : Nat) (new f : Fo) (h1 : new.Leaf) (h2 : f.Leaf) : (Fo.insAt n new f).Leaf := by
 obtain ⟨A, B, e1, e2, _, _⟩ := Fo.insAt_flat n new f
 rw [e2, leaf_app, leaf_app]
 rw [e1, leaf_app] at h2
 exact ⟨h2.1, h1, h2.2⟩
theorem leaf_upd : ∀ (f : Fo) (p lv l : Int) (d : NodeD) (ks : Fo) (n : Nat) (new : Fo), f.Leaf → new.Leaf → f.ids.Nodup → f.sub p lv = some (l, d, ks) → d.kind = 1 → (f.upd p (Fo.insAt n new)).Leaf
 | .nil, _, _, _, _, _, _, _, _, _, _, _, _ => by trivial
 | .cons id d0 ks0 r, p, lv, l, d, ks, n, new, hl, hnew, hn, h, hd => by
  obtain ⟨l1, l2, l3⟩ := hl
  simp only [Fo.ids, List.nodup_cons, List.nodup_append, List.mem_append, not_or] at hn
  obtain ⟨⟨hk, hr⟩, nk, nr, hdj⟩ := hn
  rw [Fo.sub] at h
  rw [Fo.upd]
  by_cases e : id = p
  ·rw [if_pos e] at h ⊢
   injection h with h; injection h with h1 h; injection h with h2 h3
   refine ⟨fun h' => ?_, leaf_ins n new ks0 hnew l2, l3⟩
   rw [h2] at h'; omega
  ·rw [if_neg e] at h ⊢
   cases hs : ks0.sub p (lv + 1) with
   | some y =>
    rw [hs] at h
    injection h with h
    subst h
    have hpk := Fo.sub_mem ks0 p _ _ hs
    rw [Fo.upd_not r p _ (fun h => hdj p hpk p h rfl)]
    refine ⟨fun h' => ?_, leaf_upd ks0 p (lv + 1) l d ks n new l2 hnew nk hs hd, l3⟩
    have := l1 h'
    rw [this] at hpk; simp [Fo.ids] at hpk
   | none =>
    rw [hs] at h
    rw [Fo.upd_not ks0 p _ (Fo.sub_none ks0 p _ hs)]
    exact ⟨l1, l2, leaf_upd r p lv l d ks n new l3 hnew nr h hd⟩
theorem leaf_set : ∀ (f : Fo) (p : Int) (h : NodeD → NodeD), (∀ d, (h d).kind = d.kind) → f.Leaf → (f.setD p h).Leaf
 | .nil, _, _, _, _ => trivial
 | .cons id d ks r, p, h, hk, hl => by
  obtain ⟨l1, l2, l3⟩ := hl
  rw [Fo.setD]
  by_cases e : id = p
  ·rw [if_pos e]
   exact ⟨fun h' => l1 (by rw [← hk d]; exact h'), l2, l3⟩
  ·rw [if_neg e]
   refine ⟨fun h' => ?_, leaf_set ks p h hk l2, leaf_set r p h hk l3⟩
   rw [l1 h']; rfl
theorem leaf_del : ∀ (f : Fo) (p : Int), f.Leaf → (f.del p).Leaf
 | .nil, _, _ => trivial
 | .cons id d ks r, p, hl => by
  obtain ⟨l1, l2, l3⟩ := hl
  rw [Fo.del]
  by_cases e : id = p
  ·rw [if_pos e]; exact l3
  ·rw [if_neg e]
   refine ⟨fun h' => ?_, leaf_del ks p l2, leaf_del r p l3⟩
   rw [l1 h']; rfl
section
variable {f : Fo} {next : Int} {p lv : Int} {d : NodeD} {ks : Fo} {A B : List RowD}
theorem Stand.mem (h : Stand f p lv d ks A B) : p ∈ f.ids := Fo.sub_mem f p 0 _ h.sub
theorem one_upd (h : InvF f next) (p : Int) (n : Nat) (new : Fo) : ∀ id d ks r, f.upd p (Fo.insAt n new) = .cons id d ks r → r = .nil ∧ d.kind = 1 := by
 intro id d ks r hf
 cases f with
 | nil => cases hf
 | cons i0 d0 k0 r0 =>
  obtain ⟨rfl, hd⟩ := h.one i0 d0 k0 r0 rfl
  rw [Fo.upd] at hf
  split at hf
  ·injection hf with _ h2 _ h4
   exact ⟨h4.symm, by rw [← h2]; exact hd⟩
  ·injection hf with _ h2 _ h4
   exact ⟨h4.symm, by rw [← h2]; exact hd⟩
theorem root_upd (f : Fo) (p : Int) (g : Fo → Fo) : rootF (f.upd p g) = rootF f := by
 cases f with
 | nil => rfl
 | cons i0 d0 k0 r0 => rw [Fo.upd]; split <;> rfl
theorem root_set (f : Fo) (p : Int) (g : NodeD → NodeD) : rootF (f.setD p g) = rootF f := by
 cases f with
 | nil => rfl
 | cons i0 d0 k0 r0 => rw [Fo.setD]; split <;> rfl
theorem rows_upd (hs : Stand f p lv d ks A B) (n : Nat) (new : Fo) : ∀ z, z ∈ (f.upd p (Fo.insAt n new)).flat 0 ↔ z ∈ f.flat 0 ∨ z ∈ new.flat (lv + 1) := by
 intro z
 obtain ⟨X, Y, h1, h2, _, _⟩ := Fo.insAt_flat n new ks
 have hk : ks.flat (lv + 1) = X.flat (lv + 1) ++ Y.flat (lv + 1) := by rw [h1, Fo.flat_app]
 rw [hs.upd, hs.flat, h2, Fo.flat_app, Fo.flat_app, hk]
 simp only [List.mem_append, List.mem_cons]
 constructor
 ·rintro (h | h | (h | h | h) | h)
  ·exact .inl (.inl h)
  ·exact .inl (.inr (.inl h))
  ·exact .inl (.inr (.inr (.inl (.inl h))))
  ·exact .inr h
  ·exact .inl (.inr (.inr (.inl (.inr h))))
  ·exact .inl (.inr (.inr (.inr h)))
 ·rintro ((h | h | (h | h) | h) | h)
  ·exact .inl h
  ·exact .inr (.inl h)
  ·exact .inr (.inr (.inl (.inl h)))
  ·exact .inr (.inr (.inl (.inr (.inr h))))
  ·exact .inr (.inr (.inr h))
  ·exact .inr (.inr (.inl (.inr (.inl h))))
theorem insert_step (h : InvF f next) (hs : Stand f p lv d ks A B) (hd : d.kind = 1) (pl : Nat) (hpl : pl ≤ ks.roots.length) {l : List ItemD} {dp : Int} (hfo : forestL l = (dp, 0)) (hdeep : lv + 1 + dp < 40) (hcnt : f.cnt + l.length ≤ 1000) (hm : next + (l.length : Int) ≤ 2147483647) :
  ∃ f' : Fo, InvF f' (next + (l.length : Int)) ∧ f'.flat 0 = laidL (f.flat 0) (spotL (f.flat 0) A.length pl) (namedL next l (lv + 1)) ∧ rootF f' = rootF f ∧ ∃ s2, growS (l.zip (idsFrom next l.length)) ⟨[p], pl, f.ent 0, rootF f, f.cnt⟩ = some s2 ∧ s2.g = f'.ent 0 ∧ s2.root = rootF f' ∧ s2.n = f'.cnt := by
 obtain ⟨x, r, hl, h0, hst, hok, hdp, hle, _⟩ := forest_ok l dp hfo
 obtain ⟨F, f1, f2, f3, f4, f5, f6⟩ := named_build l next hst (fun z hz => (hok z hz).1) (fun z hz => by rw [hl] at hz; simp at hz; rw [← hz]; exact h0)
 have hFn : F.ids.Nodup := by rw [f4]; exact ids_nodup _ _
 have hdis : ∀ x ∈ F.ids, x ∉ f.ids := fun x hx hxf => by
  rw [f4, ids_mem] at hx
  have := h.rng x hxf; omega
 have hp := hs.mem
 obtain ⟨q', hent, _⟩ := hs.ent h.nd
 refine ⟨f.upd p (Fo.insAt pl F), ⟨Fo.nodup_upd_ins f p pl F h.nd hFn hdis hp, fun x hx => ?_, by have := h.nx; omega, one_upd h p pl F, leaf_upd f p 0 lv d ks pl F h.leaf f2 h.nd hs.sub hd, fun z hz => ?_, by rw [Fo.cnt_upd_ins f p pl F hp h.nd, f5]; exact hcnt⟩, ?_, root_upd _ _ _, ?_⟩
 ·rw [Fo.ids_upd_ins f p pl F hp h.nd] at hx
  have := h.nx
  rcases hx with hx | hx
  ·rw [f4, ids_mem] at hx; omega
  ·have := h.rng x hx; omega
 ·rw [rows_upd hs] at hz
  rcases hz with hz | hz
  ·exact h.ok z hz
  ·rw [f1, named_more, ← f1 0] at hz
   obtain ⟨z0, hz0, rfl⟩ := List.mem_map.1 hz
   have hz1 : z0.x ∈ l := by rw [← f6]; exact List.mem_map_of_mem hz0
   have := hok _ hz1
   have h3 := hle _ hz1
   refine ⟨?_, this.2⟩
   show z0.x.level - (0 - (lv + 1)) < 40
   omega
 ·rw [← f1, hs.laid pl hpl]
 ·obtain ⟨s2, q1, q2, q3, q4, q5, q6⟩ := growS_flat F 0 p ⟨[p], pl, f.ent 0, rootF f, f.cnt⟩ pl ⟨q', d, ks.roots⟩ hFn (fun hpF => hdis p hpF hp) (h.n0 p hp) (fun x hx => ⟨Fo.ent_not f 0 x (hdis x hx), by rw [f4, ids_mem] at hx; have := h.nx; omega⟩) rfl hent hpl (fun _ => rfl) (fun h => absurd rfl h)
  rw [show prs ((0 : Nat) : Int) F = l.zip (idsFrom next l.length) from f3] at q1
  refine ⟨s2, q1, by rw [q4, Fo.ent_upd_ins f p 0 pl F h.nd hdis hp], by rw [q5, root_upd], by rw [q6, Fo.cnt_upd_ins f p pl F hp h.nd]⟩
theorem set_step (h : InvF f next) (hs : Stand f p lv d ks A B) (g : NodeD → NodeD) (hk : ∀ d, (g d).kind = d.kind) (hok : partsE ((g d).at lv) = 0) :
  InvF (f.setD p g) next ∧ (f.setD p g).flat 0 = setL (f.flat 0) A.length g ∧ rootF (f.setD p g) = rootF f ∧ (f.setD p g).cnt = f.cnt ∧ ∃ q', f.ent 0 p = some ⟨q', d, ks.roots⟩ ∧ (f.setD p g).ent 0 = fset (f.ent 0) p (some ⟨q', g d, ks.roots⟩) := by
 obtain ⟨q', hent, _⟩ := hs.ent h.nd
 refine ⟨⟨by rw [Fo.ids_setD]; exact h.nd, fun x hx => h.rng x (by rw [Fo.ids_setD] at hx; exact hx), h.nx, ?_, leaf_set f p g hk h.leaf, fun z hz => ?_, by rw [Fo.cnt_setD]; exact h.cnt⟩, ?_, root_set _ _ _, Fo.cnt_setD _ _ _, q', hent, ?_⟩
 ·intro id d1 k1 r1 hf
  cases f with
  | nil => cases hf
  | cons i0 d0 k0 r0 =>
   obtain ⟨rfl, hd⟩ := h.one i0 d0 k0 r0 rfl
   rw [Fo.setD] at hf
   split at hf
   ·injection hf with _ h2 _ h4
    exact ⟨h4.symm, by rw [← h2, hk]; exact hd⟩
   ·injection hf with _ h2 _ h4
    exact ⟨h4.symm, by rw [← h2]; exact hd⟩
 ·rw [hs.set] at hz
  have hrow : ∀ z, z ∈ A ∨ z ∈ ks.flat (lv + 1) ∨ z ∈ B → z ∈ f.flat 0 := fun z hz => by
   rw [hs.flat]
   simp only [List.mem_append, List.mem_cons]
   rcases hz with h | h | h
   ·exact .inl h
   ·exact .inr (.inr (.inl h))
   ·exact .inr (.inr (.inr h))
  simp only [List.mem_append, List.mem_cons] at hz
  rcases hz with hz | hz | hz | hz
  ·exact h.ok z (hrow z (.inl hz))
  ·rw [hz]
   exact ⟨(h.ok _ hs.row).1, hok⟩
  ·exact h.ok z (hrow z (.inr (.inl hz)))
  ·exact h.ok z (hrow z (.inr (.inr hz)))
 ·rw [hs.set, hs.flat, set_at]; rfl
 ·funext x
  rw [Fo.ent_setD f p 0 g h.nd]
  unfold fset
  by_cases hx : x = p
  ·subst hx
   rw [if_pos rfl, if_pos rfl, hent]; rfl
  ·rw [if_neg hx, if_neg hx]
end
end
section
open Go.RowKit Go.Shelf
attribute [local go_sem] Oper.semAt_some
def maxLv : List (Int × Int) → Int
 | [] => 0
 | x :: r => max x.2 (maxLv r)
def moveE (g : Int → Option Ent) (root id parent at' : Int) (xs : List (Int × Int)) (L : Nat) : Int := match g id, g parent with
 | some e, some p => if id = root then 62 else if p.d.kind ≠ 1 then 68 else if parent ∈ xs.map (·.1) then 61 else
  if at' < 0 ∨ (p.kids.length : Int) - (if e.par = parent then 1 else 0) < at' then 69 else if 40 ≤ (L : Int) + 1 + maxLv xs then 65 else 0
 | _, _ => 60
theorem results_cell1 {P : Program} {fn : Func} {p : Tmp} {ty : TypeId} (h : fn.results = #[.cell p ty]) (tmps : Array Value) (w : World) (q : Nat) (v : Value) (d : TypeDesc)
  (hp : tmps.getD p undef = .pointer (some ⟨q, 0, none⟩)) (hc : w.cell? ⟨q, 0, none⟩ = some v) (hu : P.underlying ty = some d) (hd : (match d with | .struct _ | .array _ _ => true | _ => false) = false) :
  (results fn tmps).run P w = .ok v w := by
 have hp' : tmps[p]?.getD undef = .pointer (some ⟨q, 0, none⟩) := by simpa using hp
 have hagg : (isAgg ty).run P w = .ok false w := by
  unfold isAgg
  rw [Sem.run_bind, run_underlying hu w]
  cases d <;> simp_all
 have hl : (load ⟨q, 0, none⟩).run P w = .ok v w := by simp [go_sem, hc]
 simp [results, h, hp', asAddr, Result.andThen, loadVar, hagg, hl]
theorem move_leave {V : World} {q : Nat} {r r0 : Int} {tmps : Array Value} {bs : List Nat} {R : Ending → World → Prop} (hq : V.heap[q]? = some (.cells #[.int .i64 r0] 37 (0, 0))) (hn : bs.Nodup) (hd : ∀ b ∈ bs, V.heap[b]? = some (.deferred (some [])))
  (hp : tmps.getD 8 undef = .pointer (some ⟨q, 0, none⟩)) (hR : ∀ w', Turn (fun b => b ∈ bs) (V.setCell ⟨q, 0, none⟩ (.int .i64 r)) w' → R (.returned (.int .i64 r)) w') :
  LeavesInM Fence.wide 0 Tryz.prog Tryz.f31 tmps R (bs.map markOf) .returning (V.setCell ⟨q, 0, none⟩ (.int .i64 r)) := by
 have hne : ∀ b ∈ bs, b ≠ q := fun b hb e => by have := hd b hb; rw [e, hq] at this; injection this with this; cases this
 refine marks_leave bs _ hn (fun b hb => (Below.heap_setCell _ _ _ _ (hne b hb)).trans (hd b hb)) (fun w' hw' => ⟨_, results_cell1 Tryz.results31 _ _ q (.int .i64 r) _ hp ?_ Tryz.underlying37 rfl, hR w' hw'⟩)
 have h1 : (V.setCell ⟨q, 0, none⟩ (.int .i64 r)).heap[q]? = some (.cells #[.int .i64 r] 37 (0, 0)) := Lib.heap_setCell_same (i := 0) hq _
 have h2 : w'.heap[q]? = some (.cells #[.int .i64 r] 37 (0, 0)) := (hw'.block q (Array.getElem?_eq_some_iff.1 h1).1 (fun hm => hne q hm rfl)).trans h1
 exact cell_row h2 0 _ rfl
theorem maxLv_append (a b : List (Int × Int)) : maxLv (a ++ b) = max (maxLv a) (maxLv b) ∨ maxLv b < 0 := by
 induction a with
 | nil =>
  simp only [List.nil_append, maxLv]
  by_cases h : maxLv b < 0
  ·exact .inr h
  ·exact .inl (by omega)
 | cons x a ih =>
  rcases ih with h | h
  ·left; simp only [List.cons_append, maxLv, h]; omega
  ·exact .inr h
theorem maxLv_nonneg : ∀ l : List (Int × Int), 0 ≤ maxLv l
 | [] => Int.le_refl _
 | x :: r => by have := maxLv_nonneg r; simp only [maxLv]; omega
theorem maxLv_snoc (a : List (Int × Int)) (x : Int × Int) : maxLv (a ++ [x]) = max (maxLv a) x.2 := by
 have h0 := maxLv_nonneg a
 rcases maxLv_append a [x] with h | h
 ·rw [h]; simp only [maxLv]; omega
 ·simp only [maxLv] at h; omega
section
variable {w : World} {t mb : Nat} {y : Lay} {g : Int → Option Ent} {root next : Int} {n : Nat}
theorem Move_no (h : TreeAt w t mb y g root next n) {id parent : Int} (at' : Int) (hw : wfI id) (hwp : wfI parent) (he : g id = none ∨ g parent = none) :
  Calls Tryz.prog 31 #[.pointer (some ⟨t, 0, none⟩), .int .i64 id, .int .i64 parent, .int .i64 at'] w fun e w' => e = .returned (.int .i64 60) ∧ Below w.heap.size w w' := by
 obtain ⟨W1, hW1⟩ : ∃ W1, Hid (W1 = (w.alloc (.cells #[.int .i64 parent] 3)).alloc (.cells #[.int .i64 0] 37)) := ⟨_, rfl⟩
 have hb1 : Below w.heap.size w W1 := by rw [hW1.out]; exact ((Below.refl _ w).alloc (Nat.le_refl _) _).alloc (by simp) _
 have hq1 : W1.heap[w.heap.size + 1]? = some (.cells #[.int .i64 0] 37 (0, 0)) := by
  rw [hW1.out]
  have := heap_alloc_new (w.alloc (.cells #[.int .i64 parent] 3)) (.cells #[.int .i64 0] 37)
  simpa using this
 have h1 := h.below hb1
 have c0 := h1.c0
 rw [hW1.out] at c0
 have HB1 := Lib.hid hb1
 have HQ1 := Lib.hid hq1
 have fin : ∀ (k : Nat) (w' : World), Turn (fun b => b ∈ ([] : List Nat)) ((W1.drewN k).setCell ⟨w.heap.size + 1, 0, none⟩ (.int .i64 60)) w' → Below w.heap.size w w' := fun k w' hw' => by
  have hb := HB1.out
  refine ⟨hw'.os.trans hb.os, hw'.tape.trans hb.tape, hw'.output.trans hb.output, ?_, fun b hb' => ?_⟩
  ·have h2 := hw'.size
   have h3 := hb.size
   simp at h2
   have h4 : (W1.drewN k).heap.size = W1.heap.size := rfl
   omega
  ·have h4 : (W1.drewN k).heap.size = W1.heap.size := rfl
   exact (hw'.block b (by simp; have := hb.size; omega) (by simp)).trans ((Below.heap_setCell _ _ _ _ (by show b ≠ w.heap.size + 1; omega)).trans (hb.block b hb'))
 have FIN := Lib.hid fin
 clear hb1 hq1 fin
 refine callsIn_wide.1 (callsIn_of_wp_marks (n := 0) Tryz.func31 rfl trivial ?_ rfl)
 simp only [Tryz.ntmps31, List.size_toArray, List.length_cons, List.length_nil, Nat.reduceAdd, Nat.reduceSub, Array.replicate_succ, Array.replicate_zero, List.push_toArray, List.append_toArray, List.nil_append, List.cons_append]
 cases hi : g id with
 | none =>
  have hl := (h1.look_no hi hw).1
  rw [hW1.out] at hl
  cases hpq : g parent with
  | none =>
   have hl2 := fun (j : Nat) => ((h1.keep (w' := W1.drewN j) (fun _ _ => rfl)).look_no hpq hwp).1
   rw [hW1.out] at hl2
   clear h h1 he hi hpq
   gi_wp2
   refine wpIn_wide.2 ?_
   go_quiet (fail)
   gi_wp2
   refine move_leave (bs := []) (V := ((w.alloc (.cells #[.int .i64 parent] 3)).alloc (.cells #[.int .i64 0] 37)).drewN nq) (by rw [← hW1.out]; exact HQ1.out) (by simp) (by simp) rfl (fun w' hw' => ⟨rfl, FIN.out nq w' (by rw [hW1.out]; exact hw')⟩)
  | some p =>
   have hl2 := fun (j : Nat) => ((h1.keep (w' := W1.drewN j) (fun _ _ => rfl)).look_yes hpq hwp).1
   rw [hW1.out] at hl2
   clear h h1 he hi hpq
   gi_wp2
   refine wpIn_wide.2 ?_
   go_quiet (fail)
   gi_wp2
   refine move_leave (bs := []) (V := ((w.alloc (.cells #[.int .i64 parent] 3)).alloc (.cells #[.int .i64 0] 37)).drewN nq) (by rw [← hW1.out]; exact HQ1.out) (by simp) (by simp) rfl (fun w' hw' => ⟨rfl, FIN.out nq w' (by rw [hW1.out]; exact hw')⟩)
 | some e =>
  have hpq : g parent = none := he.resolve_left (by rw [hi]; simp)
  have hl := (h1.look_yes hi hw).1
  rw [hW1.out] at hl
  have hl2 := fun (j : Nat) => ((h1.keep (w' := W1.drewN j) (fun _ _ => rfl)).look_no hpq hwp).1
  rw [hW1.out] at hl2
  clear h h1 he hi hpq
  gi_wp2
  refine wpIn_wide.2 ?_
  go_quiet (fail)
  gi_wp2
  refine move_leave (bs := []) (V := ((w.alloc (.cells #[.int .i64 parent] 3)).alloc (.cells #[.int .i64 0] 37)).drewN nq) (by rw [← hW1.out]; exact HQ1.out) (by simp) (by simp) rfl (fun w' hw' => ⟨rfl, FIN.out nq w' (by rw [hW1.out]; exact hw')⟩)
end
end
section
theorem idx_of : ∀ (l : List Int) (p : Int), p ∈ l → ∃ k, l[k]? = some p ∧ (∀ j, j < k → l[j]? ≠ some p) ∧ l.eraseIdx k = l.erase p
 | [], _, h => by cases h
 | a :: l, p, h => by
  by_cases e : a = p
  ·exact ⟨0, by rw [e]; rfl, fun j hj => by omega, by rw [e, List.erase_cons_head]; rfl⟩
  ·obtain ⟨k, h1, h2, h3⟩ := idx_of l p (by
    rcases List.mem_cons.1 h with h | h
    ·exact absurd h.symm e
    ·exact h)
   refine ⟨k + 1, by simpa using h1, fun j hj => ?_, by rw [List.eraseIdx_cons_succ, h3, List.erase_cons_tail (by simpa using e)]⟩
   cases j with
   | zero => simpa using e
   | succ j => simpa using h2 j (by omega)
theorem vis_flat : ∀ (F : Fo) (lv : Int), visF lv F = (F.flat lv).map fun r => (r.id, r.x.level)
 | .nil, _ => rfl
 | .cons id d ks r, lv => by
  rw [visF, Fo.flat, List.map_cons, List.map_append, vis_flat ks, vis_flat r]
  rfl
theorem visT_flat (p : Int) (d : NodeD) (ks : Fo) (lv : Int) : visT lv (p, d, ks) = ((Fo.cons p d ks .nil).flat lv).map fun r => (r.id, r.x.level) := by
 rw [← vis_flat]
 simp [visF, visT]
theorem visT_ids (p : Int) (d : NodeD) (ks : Fo) (lv : Int) : (visT lv (p, d, ks)).map (·.1) = p :: ks.ids := by
 rw [visT_flat, List.map_map]
 have : ((fun x : Int × Int => x.1) ∘ fun r : RowD => (r.id, r.x.level)) = fun r => r.id := rfl
 rw [this, Fo.flat_ids]
 simp [Fo.ids]
theorem visT_len (p : Int) (d : NodeD) (ks : Fo) (lv : Int) : (visT lv (p, d, ks)).length = 1 + ks.cnt := by
 rw [visT_flat, List.length_map, Fo.flat_len]
 simp [Fo.cnt]
theorem par_out : ∀ (f : Fo) (p lv q l : Int) (d : NodeD) (ks : Fo) (e : Ent), f.ids.Nodup → q ∉ f.ids → f.sub p lv = some (l, d, ks) → f.ent q p = some e → e.par ≠ p ∧ e.par ∉ ks.ids
 | .nil, _, _, _, _, _, _, _, _, _, h, _ => by simp [Fo.sub] at h
 | .cons id d0 ks0 r, p, lv, q, l, d, ks, e0, hn, hq, h, he => by
  simp only [Fo.ids, List.nodup_cons, List.nodup_append, List.mem_append, not_or] at hn
  obtain ⟨⟨hk, hr⟩, nk, nr, hd⟩ := hn
  simp only [Fo.ids, List.mem_cons, List.mem_append, not_or] at hq
  obtain ⟨hqi, hqk, hqr⟩ := hq
  rw [Fo.sub] at h
  by_cases e : id = p
  ·rw [if_pos e] at h
   injection h with h; injection h with h1 h; injection h with h2 h3
   subst h1; subst h2; subst h3; subst e
   rw [Fo.ent, if_pos rfl] at he
   injection he with he
   rw [← he]
   exact ⟨hqi, hqk⟩
  ·rw [if_neg e] at h
   rw [Fo.ent, if_neg (fun h => e h.symm)] at he
   cases hs : ks0.sub p (lv + 1) with
   | some y =>
    rw [hs] at h
    injection h with h
    subst h
    obtain ⟨ek, hek⟩ := Fo.ent_some ks0 id p (Fo.sub_mem ks0 p _ _ hs)
    rw [hek] at he
    injection he with he
    subst he
    exact par_out ks0 p (lv + 1) id l d ks ek nk hk hs hek
   | none =>
    rw [hs] at h
    rw [Fo.ent_not ks0 id p (Fo.sub_none ks0 p _ hs)] at he
    exact par_out r p lv q l d ks e0 nr hqr h he
section
variable {f : Fo} {next : Int} {p lv : Int} {d : NodeD} {ks : Fo} {A B : List RowD}
theorem ids_at (hs : Stand f p lv d ks A B) : f.ids = A.map (·.id) ++ p :: (ks.ids ++ B.map (·.id)) := by
 rw [← Fo.flat_ids f 0, hs.flat, List.map_append, List.map_cons, List.map_append, Fo.flat_ids]
theorem ids_del (hs : Stand f p lv d ks A B) : (f.del p).ids = A.map (·.id) ++ B.map (·.id) := by
 rw [← Fo.flat_ids (f.del p) 0, hs.del, List.map_append]
theorem del_mem (hs : Stand f p lv d ks A B) (hn : f.ids.Nodup) (x : Int) : x ∈ (f.del p).ids ↔ x ∈ f.ids ∧ x ≠ p ∧ x ∉ ks.ids := by
 rw [ids_del hs]
 rw [ids_at hs] at hn ⊢
 simp only [List.nodup_append, List.nodup_cons, List.mem_append, List.mem_cons, not_or] at hn ⊢
 obtain ⟨n1, ⟨⟨n2, n3⟩, n4, n5, n6⟩, n7⟩ := hn
 constructor
 ·rintro (h | h)
  ·exact ⟨.inl h, fun e => n7 x h p (.inl rfl) e, fun e => n7 x h x (.inr (.inl e)) rfl⟩
  ·exact ⟨.inr (.inr (.inr h)), fun e => n3 (e ▸ h), fun e => n6 x e x h rfl⟩
 ·rintro ⟨h | h | h | h, h2, h3⟩
  ·exact .inl h
  ·exact absurd h h2
  ·exact absurd h h3
  ·exact .inr h
theorem cnt_del (hs : Stand f p lv d ks A B) : (f.del p).cnt + (1 + ks.cnt) = f.cnt := by
 rw [← Fo.ids_len (f.del p), ← Fo.ids_len f, ids_del hs, ids_at hs]
 simp [Fo.ids_len]; omega
theorem delete_step (h : InvF f next) (hs : Stand f p lv d ks A B) (hr : p ≠ rootF f) : InvF (f.del p) next ∧ rootF (f.del p) = rootF f := by
 have hnd : (f.del p).ids.Nodup := by
  rw [ids_del hs]
  have := h.nd
  rw [ids_at hs] at this
  exact this.sublist ((List.Sublist.refl _).append ((List.sublist_append_right _ _).trans (List.sublist_cons_self _ _)))
 refine ⟨⟨hnd, fun x hx => h.rng x ((del_mem hs h.nd x).1 hx).1, h.nx, ?_, leaf_del f p h.leaf, fun z hz => ?_, by have := cnt_del hs; have := h.cnt; omega⟩, ?_⟩
 ·intro id d1 k1 r1 hf
  cases f with
  | nil => cases hf
  | cons i0 d0 k0 r0 =>
   obtain ⟨rfl, hd⟩ := h.one i0 d0 k0 r0 rfl
   rw [Fo.del, if_neg (fun e => hr e.symm)] at hf
   injection hf with _ h2 _ h4
   exact ⟨h4.symm, by rw [← h2]; exact hd⟩
 ·rw [hs.del] at hz
  refine h.ok z ?_
  rw [hs.flat]
  simp only [List.mem_append, List.mem_cons] at hz ⊢
  rcases hz with h | h
  ·exact .inl h
  ·exact .inr (.inr (.inr h))
 ·cases f with
  | nil => rfl
  | cons i0 d0 k0 r0 =>
   rw [Fo.del, if_neg (fun e => hr e.symm)]; rfl
theorem delete_ent (h : InvF f next) (hs : Stand f p lv d ks A B) {e pe : Ent} (he : f.ent 0 p = some e) (hpe : f.ent 0 e.par = some pe) {k : Nat} (hk : pe.kids.eraseIdx k = pe.kids.erase p) :
  ∀ x, x ≠ p → x ∉ ks.ids → (f.del p).ent 0 x = fset (f.ent 0) e.par (some { pe with kids := pe.kids.eraseIdx k }) x := fun x hx hxk => by
 rw [Fo.ent_del f p 0 0 lv d ks e h.nd h.q0 hs.sub he x, if_neg (by rintro (h | h); exact hx h; exact hxk h)]
 unfold fset
 by_cases hxp : x = e.par
 ·rw [if_pos hxp, if_pos hxp, hxp, hpe, hk]; rfl
 ·rw [if_neg hxp, if_neg hxp]
theorem delete_rem (h : InvF f next) (hs : Stand f p lv d ks A B) {e pe : Ent} (he : f.ent 0 p = some e) (hpe : f.ent 0 e.par = some pe) {k : Nat} (hk : pe.kids.eraseIdx k = pe.kids.erase p) :
  remG (fset (f.ent 0) e.par (some { pe with kids := pe.kids.eraseIdx k })) (p :: ks.ids) = (f.del p).ent 0 := by
 funext x
 unfold remG
 by_cases hx : x ∈ p :: ks.ids
 ·rw [if_pos hx]
  symm
  refine Fo.ent_not _ 0 x fun hm => ?_
  have := (del_mem hs h.nd x).1 hm
  rcases List.mem_cons.1 hx with h | h
  ·exact this.2.1 h
  ·exact this.2.2 h
 ·rw [if_neg hx]
  simp only [List.mem_cons, not_or] at hx
  exact (delete_ent h hs he hpe hk x hx.1 hx.2).symm
theorem agr_cut (h : InvF f next) (hs : Stand f p lv d ks A B) {e : Ent} (he : f.ent 0 p = some e) (o : Option Ent) : Agr (fset (f.ent 0) e.par o) e.par (.cons p d ks .nil) := by
 obtain ⟨⟨q', h1, _⟩, h3, h4, h5, h6, _, _⟩ := Fo.sub_ent f p 0 0 lv d ks h.nd hs.sub
 obtain ⟨o1, o2⟩ := par_out f p 0 0 lv d ks e h.nd h.q0 hs.sub he
 rw [he] at h1
 injection h1 with h1
 refine ⟨?_, ?_, trivial⟩
 ·rw [fset_other _ _ (fun h => o1 h.symm), he, h1]
 ·refine Fo.agr_of ks p _ h4 fun x hx => ?_
  have hxe : x ≠ e.par := fun h => o2 (h ▸ hx)
  rw [fset_other _ _ hxe]
  exact h3 x hx
theorem lev_one {g : Int → Option Ent} : ∀ (l m : Nat) (x : Int), Lev g l x → Lev g m x → l = m
 | 0, 0, _, _, _ => rfl
 | 0, m + 1, x, ⟨e, h1, h2⟩, ⟨e', h3, h4, _⟩ => by rw [h1] at h3; injection h3 with h3; rw [h3] at h2; exact absurd h2 h4
 | l + 1, 0, x, ⟨e, h1, h2, _⟩, ⟨e', h3, h4⟩ => by rw [h1] at h3; injection h3 with h3; rw [h3] at h2; exact absurd h4 h2
 | l + 1, m + 1, x, ⟨e, h1, h2, h5⟩, ⟨e', h3, h4, h6⟩ => by
  rw [h1] at h3; injection h3 with h3; subst h3
  rw [lev_one l m e.par h5 h6]
theorem lev_to {g g' : Int → Option Ent} (hg : ∀ x e', g' x = some e' → ∃ e, g x = some e ∧ e.par = e'.par) : ∀ (l : Nat) (x : Int), Lev g' l x → Lev g l x
 | 0, x, ⟨e', h1, h2⟩ => by
  obtain ⟨e, a, b⟩ := hg x e' h1
  exact ⟨e, a, by rw [b]; exact h2⟩
 | l + 1, x, ⟨e', h1, h2, h3⟩ => by
  obtain ⟨e, a, b⟩ := hg x e' h1
  exact ⟨e, a, by rw [b]; exact h2, by rw [b]; exact lev_to hg l _ h3⟩
theorem maxLv_ge {c : Int} : ∀ (xs : List (Int × Int)), xs ≠ [] → (∀ x ∈ xs, 0 ≤ x.2) → (40 ≤ c + maxLv xs ↔ ∃ x ∈ xs, 40 ≤ c + x.2)
 | [], h, _ => absurd rfl h
 | [x], _, h => by
  have := h x (by simp)
  simp only [maxLv, List.mem_singleton, exists_eq_left]
  omega
 | x :: y :: r, _, h => by
  have ih := maxLv_ge (c := c) (y :: r) (by simp) (fun z hz => h z (by simp [hz]))
  have e : maxLv (x :: y :: r) = max x.2 (maxLv (y :: r)) := rfl
  rw [e]
  constructor
  ·intro h'
   by_cases hx : 40 ≤ c + x.2
   ·exact ⟨x, by simp, hx⟩
   ·obtain ⟨z, hz, hz'⟩ := ih.1 (by omega)
    exact ⟨z, List.mem_cons_of_mem _ hz, hz'⟩
  ·rintro ⟨z, hz, hz'⟩
   rcases List.mem_cons.1 hz with rfl | hz
   ·omega
   ·have := ih.2 ⟨z, hz, hz'⟩; omega
end
theorem move_step {f : Fo} {next : Int} (h : InvF f next) {p lv to lt : Int} {d dt : NodeD} {ks kt : Fo} {A B A2 B2 : List RowD} (hs : Stand f p lv d ks A B) (ht : Stand f to lt dt kt A2 B2) (hr : p ≠ rootF f) (htp : to ≠ p) (htk : to ∉ ks.ids) :
  ∃ k1 A1 B1, Stand (f.del p) to lt dt k1 A1 B1 ∧ ∀ (pl : Nat), pl ≤ k1.roots.length → dt.kind = 1 → (∀ z ∈ (Fo.cons p d ks .nil).flat (lt + 1), z.x.level < 40) →
   InvF ((f.del p).upd to (Fo.insAt pl (.cons p d ks .nil))) next ∧ rootF ((f.del p).upd to (Fo.insAt pl (.cons p d ks .nil))) = rootF f ∧ ((f.del p).upd to (Fo.insAt pl (.cons p d ks .nil))).cnt = f.cnt ∧
   ((f.del p).upd to (Fo.insAt pl (.cons p d ks .nil))).flat 0 = laidL ((f.del p).flat 0) (spotL ((f.del p).flat 0) A1.length pl) ((Fo.cons p d ks .nil).flat (lt + 1)) ∧
   ((f.del p).upd to (Fo.insAt pl (.cons p d ks .nil))).ent 0 = addG ((f.del p).ent 0) to pl (.cons p d ks .nil) := by
 obtain ⟨hi, hroot⟩ := delete_step h hs hr
 have htm : to ∈ (f.del p).ids := (del_mem hs h.nd to).2 ⟨ht.mem, htp, htk⟩
 obtain ⟨l1, d1, k1, A1, B1, hs1⟩ := stand_of hi.nd htm
 obtain ⟨q1, he1, _⟩ := hs1.ent hi.nd
 obtain ⟨qt, het, _⟩ := ht.ent h.nd
 obtain ⟨q0, he0, _⟩ := hs.ent h.nd
 have hdel := Fo.ent_del f p 0 0 lv d ks _ h.nd h.q0 hs.sub he0
 have hsame : ∀ x e', (f.del p).ent 0 x = some e' → ∃ e, f.ent 0 x = some e ∧ e.par = e'.par ∧ e.d = e'.d := fun x e' hx => by
  rw [hdel x] at hx
  split at hx
  ·cases hx
  ·split at hx
   ·cases hfx : f.ent 0 x with
    | none => rw [hfx] at hx; cases hx
    | some e => rw [hfx] at hx; injection hx with hx; exact ⟨e, rfl, by rw [← hx], by rw [← hx]⟩
   ·exact ⟨e', hx, rfl, rfl⟩
 have hd1 : d1 = dt := by
  obtain ⟨e, a, _, c⟩ := hsame to _ he1
  rw [het] at a; injection a with a
  rw [← a] at c; exact c.symm
 have hl1 : l1 = lt := by
  obtain ⟨lv1, ks1, _, _, s1, _, _, _, _, hlev1, _⟩ := hi.stand he1
  obtain ⟨lv2, ks2, _, _, s2, _, _, _, _, hlev2, _⟩ := h.stand het
  have e1 : lv1 = l1 := by have := s1.sub; rw [hs1.sub] at this; injection this with this; injection this with this _; exact this.symm
  have e2 : lv2 = lt := by have := s2.sub; rw [ht.sub] at this; injection this with this; injection this with this _; exact this.symm
  subst e1; subst e2
  have := lev_one _ _ _ (lev_to (fun x e' hx => by obtain ⟨e, a, b, _⟩ := hsame x e' hx; exact ⟨e, a, b⟩) _ _ hlev1) hlev2
  have g1 := s1.lv0
  have g2 := s2.lv0
  omega
 subst hd1; subst hl1
 refine ⟨k1, A1, B1, hs1, fun pl hpl hk hlv => ?_⟩
 obtain ⟨_, g3, g4, g5, g6, _, g8⟩ := Fo.sub_ent f p 0 0 lv d ks h.nd hs.sub
 have hnn : (Fo.cons p d ks .nil).ids.Nodup := by simp [Fo.ids, g4, g5]
 have hdis : ∀ x ∈ (Fo.cons p d ks .nil).ids, x ∉ (f.del p).ids := fun x hx hx' => by
  have := (del_mem hs h.nd x).1 hx'
  simp only [Fo.ids, List.mem_cons, List.append_nil] at hx
  rcases hx with h | h
  ·exact this.2.1 h
  ·exact this.2.2 h
 have hcnt := cnt_del hs
 refine ⟨⟨Fo.nodup_upd_ins _ _ pl _ hi.nd hnn hdis htm, fun x hx => ?_, h.nx, one_upd hi _ _ _, leaf_upd _ _ 0 l1 d1 k1 pl _ hi.leaf ⟨(g8 h.leaf).2, (g8 h.leaf).1, trivial⟩ hi.nd hs1.sub hk, fun z hz => ?_, ?_⟩, ?_, ?_, ?_, Fo.ent_upd_ins _ _ 0 pl _ hi.nd hdis htm⟩
 ·rw [Fo.ids_upd_ins _ _ pl _ htm hi.nd] at hx
  rcases hx with hx | hx
  ·simp only [Fo.ids, List.mem_cons, List.append_nil] at hx
   rcases hx with hx | hx
   ·rw [hx]; exact h.rng p hs.mem
   ·exact h.rng x (g6 x hx)
  ·exact hi.rng x hx
 ·rw [rows_upd hs1] at hz
  rcases hz with hz | hz
  ·exact hi.ok z hz
  ·refine ⟨hlv z hz, ?_⟩
   have hsh := Fo.flat_shift (.cons p d ks .nil) lv (lv - l1 - 1)
   rw [show lv - (lv - l1 - 1) = l1 + 1 by omega] at hsh
   rw [← hsh] at hz
   obtain ⟨z0, hz0, rfl⟩ := List.mem_map.1 hz
   have hz1 : z0 ∈ f.flat 0 := by
    rw [hs.flat]
    rw [Fo.flat] at hz0
    simp only [Fo.flat, List.append_nil, List.mem_cons, List.mem_append] at hz0 ⊢
    rcases hz0 with h | h
    ·exact .inr (.inl h)
    ·exact .inr (.inr (.inl h))
   exact (h.ok z0 hz1).2
 ·rw [Fo.cnt_upd_ins _ _ pl _ htm hi.nd]
  have := h.cnt
  simp only [Fo.cnt]; omega
 ·rw [root_upd, hroot]
 ·rw [Fo.cnt_upd_ins _ _ pl _ htm hi.nd]
  simp only [Fo.cnt]; omega
 ·exact (hs1.laid pl hpl _).symm
end
section
open Go.RowKit Go.Shelf
def cmpN (a b : List UInt8) : Int := if Op.bytesLess a b = true then -1 else if a = b then 0 else 1
theorem bytes_list (l : List UInt8) : (⟨l.toArray⟩ : ByteArray).toList = l := by rw [ByteArray.toList_eq]
theorem find1_any (a : AttrD) (name : List UInt8) (w : World) :
  Calls Tryz.prog 100 #[.agg #[strV a.name, strV a.value], strV name] w fun e w' => e = .returned (.int .i64 (cmpN a.name name)) ∧ Below w.heap.size w w' := by
 unfold strV
 have e1 := bytes_list a.name
 have e2 := bytes_list name
 have hc0 : (w.alloc (.cells #[.string ⟨a.name.toArray⟩, .string ⟨a.value.toArray⟩] 66)).cell? ⟨w.heap.size, 0, none⟩ = some (.string ⟨a.name.toArray⟩) := cell_row (heap_alloc_new w _) 0 _ rfl
 have HB : Hid (Below w.heap.size w (w.alloc (.cells #[.string ⟨a.name.toArray⟩, .string ⟨a.value.toArray⟩] 66))) := (Below.refl _ w).alloc (Nat.le_refl _) _
 by_cases h1 : Op.bytesLess a.name name = true
 ·have hr : cmpN a.name name = -1 := by unfold cmpN; rw [if_pos h1]
  rw [hr]
  clear hr
  go_enter Tryz.func100, Tryz.ntmps100
  go_wp2_with fail
  go_ret
  exact ⟨rfl, HB.out⟩
 ·have h1' : Op.bytesLess a.name name = false := by simpa using h1
  by_cases h2 : a.name = name
  ·have hr : cmpN a.name name = 0 := by unfold cmpN; rw [if_neg h1, if_pos h2]
   have h3 : (a.name == name) = true := by simpa using h2
   rw [hr]
   clear hr h1 h2
   go_enter Tryz.func100, Tryz.ntmps100
   go_wp2_with fail
   go_ret
   exact ⟨rfl, HB.out⟩
  ·have hr : cmpN a.name name = 1 := by unfold cmpN; rw [if_neg h1, if_neg h2]
   have h3 : (a.name == name) = false := by simpa using h2
   rw [hr]
   clear hr h1 h2
   go_enter Tryz.func100, Tryz.ntmps100
   go_wp2_with fail
   go_ret
   exact ⟨rfl, HB.out⟩
def FindAt (l : List AttrD) (name : List UInt8) (k : Nat) : Prop :=
 k ≤ l.length ∧ (∀ (j : Nat) (a : AttrD), j + 1 = k → l[j]? = some a → cmpN a.name name < 0) ∧ ∀ a : AttrD, l[k]? = some a → 0 ≤ cmpN a.name name
def foundB (l : List AttrD) (name : List UInt8) (k : Nat) : Bool := match l[k]? with
 | some a => decide (a.name = name)
 | none => false
theorem cmpN_zero {a b : List UInt8} (h : ¬ Op.bytesLess a b = true) : (cmpN a b = 0) = (a = b) := by
 unfold cmpN
 rw [if_neg h]
 by_cases h2 : a = b <;> simp [h2]
theorem search_any (v : Value) (l : List AttrD) (w : World) (hrow : attRow w v l) (hn : l.length ≤ 1000000) (name : List UInt8) :
  Calls Tryz.prog 99 #[v, strV name, .func (.func 100) #[] #[]] w fun e w' =>
   ∃ k, FindAt l name k ∧ e = .returned (.tuple #[.int .i64 (k : Int), .bool (foundB l name k)]) ∧ Below w.heap.size w w' := by
 obtain ⟨A, c, hv, _, _, hA0, hA1⟩ := row_shape hrow
 unfold attRow at hrow
 rw [hv] at hrow
 subst hv
 obtain ⟨m, hm⟩ : ∃ m, Hid (l.length = m) := ⟨_, rfl⟩
 have HROW := Lib.hid hrow
 have cells : Hid (∀ (j : Nat) (a : AttrD) (w' : World), l[j]? = some a → Below w.heap.size w w' → ∃ b, A = some ⟨b, 0, none⟩ ∧ w'.cell? ⟨b, j * 2, none⟩ = some (strV a.name) ∧ w'.cell? ⟨b, j * 2 + 1, none⟩ = some (strV a.value)) := by
  intro j a w' hj hb
  cases A with
  | none => have := (hA0 rfl).1; have := (List.getElem?_eq_some_iff.1 hj).1; omega
  | some ad =>
   obtain ⟨b, rfl, hbl⟩ := hA1 ad rfl
   refine ⟨b, rfl, ?_, ?_⟩
   ·exact (hb.cell hbl).trans (own_cell HROW.out (j * 2) _ (flat_get cellsA 2 cellsA_length l j 0 a hj (by decide)))
   ·exact (hb.cell hbl).trans (own_cell HROW.out (j * 2 + 1) _ (flat_get cellsA 2 cellsA_length l j 1 a hj (by decide)))
 rw [hm.out] at hn
 rw [hm.out]
 clear hrow hA0 hA1
 have hfin : Hid (∀ (k : Nat), k ≤ m → (∀ (j : Nat) (a : AttrD), j + 1 = k → l[j]? = some a → cmpN a.name name < 0) → (∀ a : AttrD, l[k]? = some a → 0 ≤ cmpN a.name name) → FindAt l name k) := fun k h1 h2 h3 => ⟨by rw [hm.out]; exact h1, h2, h3⟩
 go_enter Tryz.func99, Tryz.ntmps99
 go_wp2_with fail
 go_loopw [9, 10] (fun i j wr => ∃ lo hi : Nat, i = .int .i64 (lo : Int) ∧ j = .int .i64 (hi : Int) ∧ lo ≤ hi ∧ hi ≤ m ∧ Hid (∀ (j : Nat) (a : AttrD), j + 1 = lo → l[j]? = some a → cmpN a.name name < 0) ∧ Hid (∀ a : AttrD, l[hi]? = some a → 0 ≤ cmpN a.name name) ∧ Hid (Below w.heap.size w wr)) (fun i j _ => (intOf j).toNat - (intOf i).toNat)
 case atStart => exact ⟨0, m, rfl, rfl, Nat.zero_le _, Nat.le_refl _, fun j a h => by omega, fun a h => by have := (List.getElem?_eq_some_iff.1 h).1; rw [hm.out] at this; omega, Below.refl _ _⟩
 case round =>
  obtain ⟨lo, hi, rfl, rfl, hlh, him, hL, hH, hbel⟩ := hrel
  have hlo0 : (0 : Int) ≤ (lo : Int) := by omega
  have hhi0 : (hi : Int) ≤ 1000000 := by omega
  by_cases hlt : lo < hi
  ·obtain ⟨q, hq⟩ : ∃ q : Nat, Hid ((lo + hi) / 2 = q) := ⟨_, rfl⟩
   have hqe : ((lo : Int) + (hi : Int)) / 2 = (q : Int) := by rw [← hq.out]; omega
   have hq1 : lo ≤ q := by rw [← hq.out]; omega
   have hq2 : q < hi := by rw [← hq.out]; omega
   have hqm : (q : Int) < (m : Int) := by omega
   have hq0 : (0 : Int) ≤ (q : Int) := by omega
   have hlt' : (lo : Int) < (hi : Int) := by omega
   obtain ⟨a, ha⟩ : ∃ a, l[q]? = some a := ⟨l[q]'(by rw [hm.out]; omega), List.getElem?_eq_getElem (by rw [hm.out]; omega)⟩
   obtain ⟨b, rfl, k0, k1⟩ := cells.out q a wr ha hbel.out
   have HA := Lib.hid ha
   obtain ⟨r, hr⟩ : ∃ r, Hid (cmpN a.name name = r) := ⟨_, rfl⟩
   have hfc := find1_any a name wr
   rw [hr.out] at hfc
   clear ha
   by_cases hneg : r < 0
   ·go_wp2_with (refine hfc.mono ?_; rintro e w2 ⟨rfl, hb2⟩)
    refine ⟨⟨q + 1, hi, by go_num, rfl, by omega, him, fun j a' h1 h2 => ?_, hH, hbel.out.trans (hb2.mono hbel.out.size)⟩, by simp [intOf]; omega⟩
    have : j = q := by omega
    subst this
    rw [HA.out] at h2
    injection h2 with h2
    rw [← h2, hr.out]; exact hneg
   ·have hneg' : 0 ≤ r := by omega
    clear hneg
    go_wp2_with (refine hfc.mono ?_; rintro e w2 ⟨rfl, hb2⟩)
    refine ⟨⟨lo, q, rfl, rfl, by omega, by omega, hL, fun a' h2 => ?_, hbel.out.trans (hb2.mono hbel.out.size)⟩, by simp [intOf]; omega⟩
    rw [HA.out] at h2
    injection h2 with h2
    rw [← h2, hr.out]; exact hneg'
  ·have hlh' : hi = lo := by omega
   subst hlh'
   have hF := hfin.out hi him hL.out hH.out
   have HF := Lib.hid hF
   clear hF
   by_cases hlm : hi < m
   ·obtain ⟨a, ha⟩ : ∃ a, l[hi]? = some a := ⟨l[hi]'(by rw [hm.out]; omega), List.getElem?_eq_getElem (by rw [hm.out]; omega)⟩
    obtain ⟨b, rfl, k0, k1⟩ := cells.out hi a wr ha hbel.out
    have hlm' : (hi : Int) < (m : Int) := by omega
    obtain ⟨r, hr⟩ : ∃ r, Hid (cmpN a.name name = r) := ⟨_, rfl⟩
    have hfc := find1_any a name wr
    rw [hr.out] at hfc
    have hnl : ¬ Op.bytesLess a.name name = true := fun h => by
     have := hH.out a ha
     unfold cmpN at this
     rw [if_pos h] at this
     omega
    have hfb : Hid (foundB l name hi = decide (r = 0)) := by
     show _ = _
     unfold foundB
     rw [ha, ← hr.out]
     simp only [cmpN_zero hnl]
    clear ha hnl hlh
    go_wp2_with (refine hfc.mono ?_; rintro e w2 ⟨rfl, hb2⟩)
    go_ret2
    refine ⟨hi, HF.out, ?_, hbel.out.trans (hb2.mono hbel.out.size)⟩
    rw [hfb.out]
    rfl
   ·have hlm' : (m : Int) ≤ (hi : Int) := by omega
    have hfb : Hid (foundB l name hi = false) := by
     show _ = _
     unfold foundB
     rw [List.getElem?_eq_none (by rw [hm.out]; omega)]
    clear hlh
    go_wp2_with fail
    go_ret2
    refine ⟨hi, HF.out, ?_, hbel.out⟩
    rw [hfb.out]
    rfl
section
variable {w : World} {t mb : Nat} {y : Lay} {g : Int → Option Ent} {root next : Int} {n : Nat}
theorem find_any (h : TreeAt w t mb y g root next n) {id : Int} {e : Ent} (he : g id = some e) (hn : e.d.attrs.length ≤ 1000000) (name : List UInt8) :
  Calls Tryz.prog 72 #[.pointer (some ⟨y.nb id, 0, none⟩), strV name] w fun er w' =>
   ∃ k, FindAt e.d.attrs name k ∧ er = .returned (.tuple #[.int .i64 (k : Int), .bool (foundB e.d.attrs name k)]) ∧ Below w.heap.size w w' := by
 have c6 := h.n6 he
 have hrow := h.att _ _ he
 have HROW := Lib.hid hrow
 have HN := Lib.hid hn
 clear hrow h he hn
 go_enter Tryz.func72, Tryz.ntmps72
 go_wp2_with fail
 refine (search_any _ _ _ HROW.out HN.out name).mono ?_
 rintro e1 w2 ⟨k, hk, rfl, hb⟩
 go_wp2_with fail
 go_ret2
 exact ⟨k, hk, rfl, hb⟩
end
end
end Go.Proofs.YtmkgajdgnmolkaaGreat
