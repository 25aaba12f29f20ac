/-
  Trees: what is put in, and taken out again, leaves all as it was; what is moved, and moved back, too: plain.
-/
import Derived.Test.YtmkgajdgnmolkaaGreatT6
namespace Go.Proofs.YtmkgajdgnmolkaaGreat
namespace Fo
theorem flat_inj : ∀ (f g : Fo) (lv : Int), f.flat lv = g.flat lv → f = g
 | nil, nil, _, _ => rfl
 | nil, cons _ _ _ _, _, h => by simp [flat] at h
 | cons _ _ _ _, nil, _, h => by simp [flat] at h
 | cons id d ks r, cons id' d' ks' r', lv, h => by
  simp only [flat, List.cons.injEq] at h
  obtain ⟨h1, h2⟩ := h
  injection h1 with h3 h4
  have hd : d = d' := by
   have := congrArg ItemD.node h4
   simpa [at_node] using this
  have hk : ∀ (k q : Fo), (k.flat (lv + 1) ++ q.flat lv).takeWhile (fun r => decide (lv < r.x.level)) = k.flat (lv + 1) := fun k q =>
   take_while_at _ _ lv (fun z hz => by have := flat_ge k (lv + 1) z hz; omega) (fun z hz => by have := flat_head q lv z hz; omega)
  have hks : ks.flat (lv + 1) = ks'.flat (lv + 1) := by rw [← hk ks r, h2, hk ks' r']
  rw [hks] at h2
  have hr := List.append_cancel_left h2
  rw [h3, hd, flat_inj ks ks' (lv + 1) hks, flat_inj r r' lv hr]
theorem ins_nil : ∀ (m : Nat) (f : Fo), insAt m nil f = f
 | 0, _ => rfl
 | _ + 1, nil => rfl
 | m + 1, cons id d ks r => by rw [insAt, ins_nil m r]
theorem upd_ins_nil : ∀ (f : Fo) (p : Int) (m : Nat), f.upd p (insAt m nil) = f
 | nil, _, _ => rfl
 | cons id d ks r, p, m => by
  unfold upd
  split
  ·rw [ins_nil]
  ·rw [upd_ins_nil ks, upd_ins_nil r]
theorem del_ins : ∀ (m : Nat) (q : Int) (dq : NodeD) (kq R ks : Fo), q ∉ ks.ids → (insAt m (cons q dq kq R) ks).del q = insAt m R ks
 | 0, q, dq, kq, R, ks, _ => by simp [insAt, app, del]
 | m + 1, q, dq, kq, R, nil, _ => by simp [insAt, del]
 | m + 1, q, dq, kq, R, cons id d ks r, h => by
  simp only [ids, List.mem_cons, List.mem_append, not_or] at h
  rw [insAt, insAt, del, if_neg (fun e => h.1 e.symm), del_not ks q h.2.1, del_ins m q dq kq R r h.2.2]
theorem del_upd_ins : ∀ (f : Fo) (p : Int) (m : Nat) (q : Int) (dq : NodeD) (kq R : Fo), q ∉ f.ids → (f.upd p (insAt m (cons q dq kq R))).del q = f.upd p (insAt m R)
 | nil, _, _, _, _, _, _, _ => rfl
 | cons id d ks r, p, m, q, dq, kq, R, h => by
  simp only [ids, List.mem_cons, List.mem_append, not_or] at h
  unfold upd
  split
  ·rw [del, if_neg (fun e => h.1 e.symm), del_ins m q dq kq R ks h.2.1, del_not r q h.2.2]
  ·rw [del, if_neg (fun e => h.1 e.symm), del_upd_ins ks p m q dq kq R h.2.1, del_upd_ins r p m q dq kq R h.2.2]
theorem ins_sub : ∀ (m : Nat) (p lv : Int) (d : NodeD) (ks f : Fo), p ∉ f.ids → (insAt m (cons p d ks nil) f).sub p lv = some (lv, d, ks)
 | 0, p, lv, d, ks, f, _ => by simp [insAt, app, sub]
 | m + 1, p, lv, d, ks, nil, _ => by simp [insAt, sub]
 | m + 1, p, lv, d, ks, cons id d' k r, h => by
  simp only [ids, List.mem_cons, List.mem_append, not_or] at h
  rw [insAt, sub, if_neg (fun e => h.1 e.symm)]
  cases hs : k.sub p (lv + 1) with
  | some x => exact absurd (sub_mem k p (lv + 1) x hs) h.2.1
  | none => exact ins_sub m p lv d ks r h.2.2
theorem sub_upd_ins : ∀ (f : Fo) (q : Int) (m : Nat) (p lv : Int) (d : NodeD) (ks : Fo), p ∉ f.ids → f.ids.Nodup → q ∈ f.ids → ∃ l, (f.upd q (insAt m (cons p d ks nil))).sub p lv = some (l, d, ks)
 | nil, _, _, _, _, _, _, _, _, h => by simp [ids] at h
 | cons id d' k r, q, m, p, lv, d, ks, hp, hn, hq => by
  simp only [ids, List.mem_cons, List.mem_append, not_or] at hp hq
  simp only [ids, List.nodup_cons, List.nodup_append, List.mem_append, not_or] at hn
  obtain ⟨⟨n1, n2⟩, n3, n4, n5⟩ := hn
  unfold upd
  split
  ·rw [sub, if_neg (fun e => hp.1 e.symm), ins_sub m p (lv + 1) d ks k hp.2.1]
   exact ⟨_, rfl⟩
  ·rename_i hne
   rw [sub, if_neg (fun e => hp.1 e.symm)]
   rcases hq with hq | hq | hq
   ·exact absurd hq.symm hne
   ·obtain ⟨l, hl⟩ := sub_upd_ins k q m p (lv + 1) d ks hp.2.1 n3 hq
    rw [hl]
    exact ⟨_, rfl⟩
   ·have hqk : q ∉ k.ids := fun h => n5 q h q hq rfl
    rw [upd_not k q _ hqk]
    cases hs : k.sub p (lv + 1) with
    | some x => exact absurd (sub_mem k p (lv + 1) x hs) hp.2.1
    | none => exact sub_upd_ins r q m p lv d ks hp.2.2 n4 hq
theorem ins_del : ∀ (f : Fo) (p lv : Int), f.ids.Nodup → p ∈ f.roots → ∃ k d ks, f.roots[k]? = some p ∧ f.sub p lv = some (lv, d, ks) ∧ insAt k (cons p d ks nil) (f.del p) = f
 | nil, _, _, _, h => by simp [roots] at h
 | cons id d ks r, p, lv, hn, hp => by
  simp only [ids, List.nodup_cons, List.nodup_append, List.mem_append, not_or] at hn
  obtain ⟨⟨n1, n2⟩, n3, n4, n5⟩ := hn
  by_cases e : id = p
  ·subst e
   exact ⟨0, d, ks, rfl, by simp [sub], by simp [del, insAt, app]⟩
  ·simp only [roots, List.mem_cons] at hp
   rcases hp with hp | hp
   ·exact absurd hp.symm e
   ·have hpr : p ∈ r.ids := roots_sub r p hp
    have hpk : p ∉ ks.ids := fun h => n5 p h p hpr rfl
    obtain ⟨k, d', ks', h1, h2, h3⟩ := ins_del r p lv n4 hp
    refine ⟨k + 1, d', ks', by simpa [roots] using h1, ?_, ?_⟩
    ·rw [sub, if_neg e]
     cases hs : ks.sub p (lv + 1) with
     | some x => exact absurd (sub_mem ks p (lv + 1) x hs) hpk
     | none => exact h2
    ·rw [del, if_neg e, del_not ks p hpk, insAt, h3]
theorem re_ins : ∀ (f : Fo) (p q lv lq : Int) (dq : NodeD) (kq : Fo), f.ids.Nodup → f.sub q lv = some (lq, dq, kq) → p ∈ kq.roots → ∃ k d ks, kq.roots[k]? = some p ∧ f.sub p lv = some (lq + 1, d, ks) ∧ (f.del p).upd q (insAt k (cons p d ks nil)) = f
 | nil, _, _, _, _, _, _, _, h, _ => by simp [sub] at h
 | cons id d0 k0 r, p, q, lv, lq, dq, kq, hn, hs, hp => by
  have hn0 := hn
  simp only [ids, List.nodup_cons, List.nodup_append, List.mem_append, not_or] at hn
  obtain ⟨⟨n1, n2⟩, n3, n4, n5⟩ := hn
  by_cases e : id = q
  ·subst e
   simp only [sub, if_true, Option.some.injEq, Prod.mk.injEq] at hs
   obtain ⟨rfl, rfl, rfl⟩ := hs
   have hpk : p ∈ k0.ids := roots_sub k0 p hp
   have hne : id ≠ p := fun e => n1 (e ▸ hpk)
   have hpr : p ∉ r.ids := fun h => n5 p hpk p h rfl
   obtain ⟨k, d, ks, h1, h2, h3⟩ := ins_del k0 p (lv + 1) n3 hp
   refine ⟨k, d, ks, h1, by rw [sub, if_neg hne, h2], ?_⟩
   rw [del, if_neg hne, del_not r p hpr, upd, if_pos rfl, h3]
  ·rw [sub, if_neg e] at hs
   cases hk : k0.sub q (lv + 1) with
   | some x =>
    rw [hk] at hs
    injection hs with hs
    subst hs
    have hpk : p ∈ k0.ids := (sub_ent k0 q (lv + 1) 0 lq dq kq n3 hk).2.2.2.2.1 p (roots_sub kq p hp)
    have hqk : q ∈ k0.ids := sub_mem k0 q (lv + 1) _ hk
    have hne : id ≠ p := fun e => n1 (e ▸ hpk)
    have hpr : p ∉ r.ids := fun h => n5 p hpk p h rfl
    have hqr : q ∉ r.ids := fun h => n5 q hqk q h rfl
    obtain ⟨k, d, ks, h1, h2, h3⟩ := re_ins k0 p q (lv + 1) lq dq kq n3 hk hp
    refine ⟨k, d, ks, h1, by rw [sub, if_neg hne, h2], ?_⟩
    rw [del, if_neg hne, del_not r p hpr, upd, if_neg e, h3, upd_not r q _ hqr]
   | none =>
    rw [hk] at hs
    have hpr : p ∈ r.ids := (sub_ent r q lv 0 lq dq kq n4 hs).2.2.2.2.1 p (roots_sub kq p hp)
    have hqr : q ∈ r.ids := sub_mem r q lv _ hs
    have hne : id ≠ p := fun e => n2 (e ▸ hpr)
    have hpk : p ∉ k0.ids := fun h => n5 p h p hpr rfl
    have hqk : q ∉ k0.ids := fun h => n5 q h q hqr rfl
    obtain ⟨k, d, ks, h1, h2, h3⟩ := re_ins r p q lv lq dq kq n4 hs hp
    refine ⟨k, d, ks, h1, ?_, ?_⟩
    ·rw [sub, if_neg hne]
     cases hs' : k0.sub p (lv + 1) with
     | some x => exact absurd (sub_mem k0 p (lv + 1) x hs') hpk
     | none => exact h2
    ·rw [del, if_neg hne, del_not k0 p hpk, upd, if_neg e, h3, upd_not k0 q _ hqk]
end Fo
theorem nodup_idx : ∀ (l : List Int), l.Nodup → ∀ (i j : Nat) (x : Int), l[i]? = some x → l[j]? = some x → i = j
 | [], _, _, _, _, h, _ => by simp at h
 | a :: l, hn, 0, 0, _, _, _ => rfl
 | a :: l, hn, 0, j + 1, x, h, h' => by
  simp only [List.getElem?_cons_zero, Option.some.injEq, List.getElem?_cons_succ] at h h'
  exact absurd (h ▸ List.mem_of_getElem? h') (List.nodup_cons.1 hn).1
 | a :: l, hn, i + 1, 0, x, h, h' => by
  simp only [List.getElem?_cons_zero, Option.some.injEq, List.getElem?_cons_succ] at h h'
  exact absurd (h' ▸ List.mem_of_getElem? h) (List.nodup_cons.1 hn).1
 | a :: l, hn, i + 1, j + 1, x, h, h' => by rw [nodup_idx l (List.nodup_cons.1 hn).2 i j x (by simpa using h) (by simpa using h')]
def zeros (l : List ItemD) : Nat := (l.filter fun x => decide (x.level = 0)).length
theorem zeros_snoc {l : List ItemD} {k : Nat} {x : ItemD} (h : l[k]? = some x) : zeros (l.take (k + 1)) = zeros (l.take k) + (if x.level = 0 then 1 else 0) := by
 unfold zeros
 rw [List.take_add_one, h, List.filter_append, List.length_append]
 by_cases e : x.level = 0 <;> simp [e]
theorem pos_zeros : ∀ (X : List RowD) (b : Nat), (posL 0 b X).length = zeros (X.map (·.x))
 | [], _ => rfl
 | r :: X, b => by
  unfold posL zeros
  have := pos_zeros X (b + 1)
  unfold zeros at this
  by_cases e : r.x.level = 0 <;> simp [e, this]
theorem roots_zeros (F : Fo) : F.roots.length = zeros ((F.flat 0).map (·.x)) := by rw [← pos_zeros _ 0, pos_flat, offs_len]
section
variable {f : Fo} {next : Int}
theorem insert_fo (h : InvF f next) {id pl : Int} {l : List ItemD} {L' : List RowD} {nx ID : Int} (hE : insertL (f.flat 0) next id pl l = (L', nx, ID, 0)) :
  ∃ (e : Ent) (m : Nat) (F : Fo), f.ent 0 id = some e ∧ pl = (m : Int) ∧ m ≤ e.kids.length ∧ F.roots.length = zeros l ∧ F.ids = idsFrom next l.length ∧ L' = (f.upd id (Fo.insAt m F)).flat 0 ∧ ID = next ∧ nx = next + (l.length : Int) ∧ nx ≤ 2147483647 := by
 cases he : f.ent 0 id with
 | none =>
  unfold insertL at hE
  rw [find_ent he] at hE
  simp at hE
 | some e =>
  obtain ⟨lv, ks, A, B, hs, hkr, _, _, _, _, _⟩ := h.stand he
  unfold insertL at hE
  rw [hs.find] at hE
  simp only [hs.get] at hE
  rw [hs.kids_len] at hE
  split at hE
  ·simp at hE
  split at hE
  ·simp at hE
  rename_i hpl
  split at hE
  ·rename_i h0
   simp only [Prod.mk.injEq] at hE
   exact absurd hE.2.2.2 h0
  rename_i h0
  split at hE
  ·simp at hE
  split at hE
  ·simp at hE
  rename_i hmany
  obtain ⟨m, rfl⟩ : ∃ m : Nat, pl = (m : Int) := ⟨pl.toNat, by omega⟩
  obtain ⟨x, r, hl, hx0, hst, hok, _, _, _⟩ := forest_ok l (forestL l).1 (by
   have : (forestL l).2 = 0 := Decidable.not_not.1 h0
   rw [← this])
  obtain ⟨F, f1, _, _, f4, _, f6⟩ := named_build l next hst (fun z hz => (hok z hz).1) (fun z hz => by rw [hl] at hz; simp at hz; rw [← hz]; exact hx0)
  simp only [Prod.mk.injEq] at hE
  obtain ⟨e1, e2, e3, _⟩ := hE
  refine ⟨e, m, F, rfl, rfl, by rw [hkr]; omega, by rw [roots_zeros, f6], f4, ?_, e3.symm, e2.symm, by omega⟩
  rw [← e1, show ((m : Int)).toNat = m by omega]
  rw [← f1, show (e.d.at lv).level = lv from rfl, hs.laid m (by omega)]
theorem delete_fo {p q : Int} {m : Nat} {dq : NodeD} {kq R : Fo} {nx : Int} (hp : p ∈ f.ids) (hq : q ∉ f.ids) (hn : f.ids.Nodup) (hi : InvF (f.upd p (Fo.insAt m (.cons q dq kq R))) nx) :
  deleteL ((f.upd p (Fo.insAt m (.cons q dq kq R))).flat 0) nx q = ((f.upd p (Fo.insAt m R)).flat 0, nx, 0, 0) := by
 have hm : q ∈ (f.upd p (Fo.insAt m (.cons q dq kq R))).ids := (Fo.ids_upd_ins f p m _ hp hn q).2 (.inl (by simp [Fo.ids]))
 obtain ⟨lv, d, ks, A, B, hs⟩ := stand_of hi.nd hm
 have hr : q ≠ rootF (f.upd p (Fo.insAt m (.cons q dq kq R))) := by
  rw [root_upd]
  cases f with
  | nil => simp [Fo.ids] at hp
  | cons id d' k' r' =>
   intro e
   apply hq
   rw [e]
   simp [rootF, Fo.ids]
 unfold deleteL
 rw [hs.find]
 simp only
 rw [if_neg (fun h' => hr (hs.first.1 h')), hs.without, Fo.del_upd_ins f p m q dq kq R hq]
theorem move_fo (h : InvF f next) {id to pl : Int} {L' : List RowD} {nx ID : Int} (hE : moveL (f.flat 0) next id to pl = (L', nx, ID, 0)) :
  ∃ (f2 : Fo) (e pe : Ent), L' = f2.flat 0 ∧ f.ent 0 id = some e ∧ f.ent 0 e.par = some pe ∧ id ∈ pe.kids ∧ pe.kids.length ≤ 1000 ∧
   (InvF f2 next → ∀ k : Nat, pe.kids[k]? = some id → moveL (f2.flat 0) next id e.par (k : Int) = (f.flat 0, next, 0, 0)) := by
 cases he : f.ent 0 id with
 | none =>
  unfold moveL at hE
  rw [find_ent he] at hE
  simp at hE
 | some e =>
  cases hpt : f.ent 0 to with
  | none =>
   unfold moveL at hE
   rw [find_ent hpt] at hE
   cases hf : findL (f.flat 0) id <;> simp [hf] at hE
  | some pt =>
   obtain ⟨lv, ks, A1, B1, hs, hkids, _, _, _, _, _⟩ := h.stand he
   obtain ⟨lt, kt, A2, B2, ht, hkt, _, _, _, _, _⟩ := h.stand hpt
   unfold moveL at hE
   rw [hs.find, ht.find] at hE
   simp only [ht.get] at hE
   rw [show (pt.d.at lt).level = lt from rfl, part_eq hs lt, hs.end] at hE
   split at hE
   ·simp at hE
   rename_i hk0
   have hr : id ≠ rootF f := fun e' => hk0 (hs.first.2 e')
   split at hE
   ·simp at hE
   rename_i hkind
   split at hE
   ·simp at hE
   rename_i hrg
   have hrange := find_range h.nd hs ht
   have hnt : to ≠ id := fun e' => hrg (hrange.2 (.inl e'))
   have hnk : to ∉ ks.ids := fun e' => hrg (hrange.2 (.inr e'))
   obtain ⟨hi', hroot⟩ := delete_step h hs hr
   obtain ⟨k1, A3, B3, hs1, hstep⟩ := move_step h hs ht hr hnt hnk
   rw [hs.without] at hE
   simp only [hs1.find, hs1.kids_len] at hE
   split at hE
   ·simp at hE
   rename_i hpl
   split at hE
   ·simp at hE
   rename_i hany
   have hnd : ∀ z ∈ (Fo.cons id e.d ks .nil).flat (lt + 1), z.x.level < 40 := fun z hz => by
    by_cases h40 : z.x.level < 40
    ·exact h40
    ·exact absurd (List.any_eq_true.2 ⟨z, hz, decide_eq_true (by omega)⟩) hany
   obtain ⟨s1, s2, s3, s4, s5⟩ := hstep pl.toNat (by omega) (Decidable.not_not.1 hkind) hnd
   simp only [Prod.mk.injEq] at hE
   obtain ⟨e1, _, _, _⟩ := hE
   rcases h.rootOf he with ⟨hr', _⟩ | ⟨_, hp0', hpm, pe, hpe, hmem, hndk⟩
   ·exact absurd hr' hr
   have hidg : id ∉ (f.del id).ids := fun hm => ((del_mem hs h.nd id).1 hm).2.1 rfl
   have htg : to ∈ (f.del id).ids := (del_mem hs h.nd to).2 ⟨ht.mem, hnt, hnk⟩
   refine ⟨(f.del id).upd to (Fo.insAt pl.toNat (.cons id e.d ks .nil)), e, pe, by rw [← e1, s4], rfl, hpe, hmem, h.kidsN _ _ hpe, fun hi2 k hk => ?_⟩
   obtain ⟨f2, hf2⟩ : ∃ f2, f2 = (f.del id).upd to (Fo.insAt pl.toNat (.cons id e.d ks .nil)) := ⟨_, rfl⟩
   rw [← hf2] at hi2 s2 ⊢
   -- the parent, in f
   obtain ⟨lq, kq, A4, B4, hq, hkq, _, _, hokq, _, hleafq⟩ := h.stand hpe
   obtain ⟨o1, o2⟩ := par_out f id 0 0 lv e.d ks e h.nd h.q0 hs.sub he
   obtain ⟨k', d', ks', r1, r2, r3⟩ := Fo.re_ins f id e.par 0 lq pe.d kq h.nd hq.sub (by rw [← hkq]; exact hmem)
   rw [hs.sub] at r2
   simp only [Option.some.injEq, Prod.mk.injEq] at r2
   obtain ⟨q1, q2, q3⟩ := r2
   subst q2
   subst q3
   have hkk : k = k' := by
    rw [← hkq] at r1
    exact nodup_idx _ hndk k k' id hk r1
   subst hkk
   -- the node, the parent, in f2
   have hd2 : f2.del id = f.del id := by rw [hf2, Fo.del_upd_ins _ to pl.toNat id e.d ks .nil hidg, Fo.upd_ins_nil]
   have hid2 : id ∈ f2.ids := by rw [hf2]; exact (Fo.ids_upd_ins _ to pl.toNat _ htg hi'.nd id).2 (.inl (by simp [Fo.ids]))
   have hpg : e.par ∈ (f.del id).ids := (del_mem hs h.nd e.par).2 ⟨hpm, o1, o2⟩
   have hp2 : e.par ∈ f2.ids := by rw [hf2]; exact (Fo.ids_upd_ins _ to pl.toNat _ htg hi'.nd e.par).2 (.inr hpg)
   obtain ⟨l2, d2, ks2, A5, B5, hs2⟩ := stand_of hi2.nd hid2
   obtain ⟨l3, d3, kq3, A6, B6, hq2⟩ := stand_of hi2.nd hp2
   obtain ⟨l4, hsub⟩ := Fo.sub_upd_ins (f.del id) to pl.toNat id 0 e.d ks hidg hi'.nd htg
   rw [← hf2, hs2.sub] at hsub
   simp only [Option.some.injEq, Prod.mk.injEq] at hsub
   obtain ⟨_, hsd, hsk⟩ := hsub
   subst d2
   subst ks2
   have hr2 : id ≠ rootF f2 := by rw [s2]; exact hr
   have hpn : e.par ≠ id ∧ e.par ∉ ks.ids := by
    have := hpg
    rw [← hd2, del_mem hs2 hi2.nd] at this
    exact this.2
   -- the parent's own data
   have hk1 : pe.d.kind = 1 := by
    have h2 : pe.d.kind ≠ 2 := fun h2 => by
     have := hleafq h2
     rw [hkq, this] at hmem
     simp [Fo.roots] at hmem
    have h3 := hokq
    unfold partsE at h3
    split at h3
    ·rename_i h4; exact absurd h4.1 h2
    ·split at h3
     ·cases h3
     ·rename_i h4
      exact Decidable.byContradiction fun h5 => h4 (.inl h5)
   -- moved back
   obtain ⟨k5, A7, B7, hs5, hstep5⟩ := move_step h hs hq hr hpn.1 (by exact o2)
   obtain ⟨k6, A8, B8, hs6, _⟩ := move_step hi2 hs2 hq2 hr2 hpn.1 hpn.2
   have h56 := hs6.sub
   rw [hd2, hs5.sub] at h56
   simp only [Option.some.injEq, Prod.mk.injEq] at h56
   obtain ⟨h51, h52, _⟩ := h56
   have hk5 : k5.roots = pe.kids.erase id := by
    obtain ⟨qx, hx, _⟩ := hs5.ent hi'.nd
    rw [Fo.ent_del f id 0 0 lv e.d ks e h.nd h.q0 hs.sub he e.par, if_neg (by rintro (h1 | h1); exact o1 h1; exact o2 h1), if_pos rfl, hpe] at hx
    simp only [Option.map_some, Option.some.injEq] at hx
    have := congrArg Ent.kids hx
    simp only at this
    exact this.symm
   have hkl : k ≤ k5.roots.length := by
    have h1 := (List.getElem?_eq_some_iff.1 hk).1
    have h2 := List.length_erase_of_mem hmem
    rw [hk5]
    omega
   have hlev : ∀ z ∈ (Fo.cons id e.d ks .nil).flat (lq + 1), z.x.level < 40 := fun z hz => by
    rw [← q1] at hz
    refine (h.ok z ?_).1
    rw [hs.flat]
    simp only [Fo.flat, List.append_nil, List.mem_cons, List.mem_append] at hz ⊢
    rcases hz with h1 | h1
    ·exact .inr (.inl h1)
    ·exact .inr (.inr (.inl h1))
   obtain ⟨_, _, _, t4, _⟩ := hstep5 k hkl hk1 hlev
   unfold moveL
   rw [hs2.find, hq2.find]
   simp only [hq2.get]
   rw [hs2.end, hs2.without, hd2]
   rw [if_neg (fun h' => hr2 (hs2.first.1 h')), if_neg (fun h' => h' (by show d3.kind = 1; rw [← h52]; exact hk1)), if_neg (fun h' => by
    rcases (find_range hi2.nd hs2 hq2).1 h' with h1 | h1
    ·exact hpn.1 h1
    ·exact hpn.2 h1)]
   have hl3 : (d3.at l3).level = lq := by
    show l3 = lq
    exact h51.symm
   simp only [hs5.find, hs5.kids_len]
   rw [if_neg (by omega)]
   have hpe2 := part_eq hs2 lq
   rw [hs2.end] at hpe2
   rw [hl3, hpe2, if_neg (by
    rw [List.any_eq_true]
    rintro ⟨z, hz, hz'⟩
    have := hlev z hz
    have := of_decide_eq_true hz'
    omega)]
   rw [show ((k : Int)).toNat = k by omega, ← t4, r3]
end
end Go.Proofs.YtmkgajdgnmolkaaGreat
