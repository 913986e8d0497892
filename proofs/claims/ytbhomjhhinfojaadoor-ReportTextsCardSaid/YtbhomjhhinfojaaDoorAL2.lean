/- What Go functions compute, without memory: an evaluator of the program's own operations, and that it is sound (part 2). -/
import Derived.Test.YtbhomjhhinfojaaDoorAL1
namespace Go.Proofs.AL
open Go Go.RowKit

theorem heap_setCell_at {w : World} {b o : Nat} {cur : Array Value} {T : TypeId} {fr : Nat × Nat} (v : Value) (h : w.heap[b]? = some (.cells cur T fr)) : (w.setCell ⟨b, o, none⟩ v).heap[b]? = some (.cells (cur.setIfInBounds o v) T fr) := by
  have hlt : b < w.heap.size := (Array.getElem?_eq_some_iff.1 h).1
  have hv : w.heap[b] = .cells cur T fr := (Array.getElem?_eq_some_iff.1 h).2
  simp [World.setCell, Array.getElem?_modify, h]
theorem heap_setCells_at {b : Nat} {T : TypeId} {fr : Nat × Nat} : ∀ (vs : List Value) (o : Nat) (w : World) (cur : Array Value), w.heap[b]? = some (.cells cur T fr) → o + vs.length ≤ cur.size →
    (w.setCells b o vs).heap[b]? = some (.cells (splice o vs cur.toList).toArray T fr)
  | [], o, w, cur, h, _ => by simpa [World.setCells, splice] using h
  | v :: vs, o, w, cur, h, hl => by
    simp only [List.length_cons] at hl
    have h1 := heap_setCells_at vs (o + 1) (w.setCell ⟨b, o, none⟩ v) _ (heap_setCell_at v h) (by simp; omega)
    show ((w.setCell ⟨b, o, none⟩ v).setCells b (o + 1) vs).heap[b]? = _
    rw [h1, splice_cons (by simp; omega)]
    simp
theorem heap_setCells_ne {b k : Nat} (hk : k ≠ b) : ∀ (vs : List Value) (o : Nat) (w : World), (w.setCells b o vs).heap[k]? = w.heap[k]?
  | [], _, _ => rfl
  | v :: vs, o, w => (heap_setCells_ne hk vs (o + 1) (w.setCell ⟨b, o, none⟩ v)).trans (Below.heap_setCell w ⟨b, o, none⟩ v k hk)
theorem size_setCells (b : Nat) : ∀ (vs : List Value) (o : Nat) (w : World), (w.setCells b o vs).heap.size = w.heap.size
  | [], _, _ => rfl
  | v :: vs, o, w => (size_setCells b vs (o + 1) (w.setCell ⟨b, o, none⟩ v)).trans (by simp [World.setCell])
theorem below_setCells {B b : Nat} {w0 : World} (hb : B ≤ b) : ∀ (vs : List Value) (o : Nat) (w : World), Below B w0 w → Below B w0 (w.setCells b o vs)
  | [], _, _, h => h
  | v :: vs, o, w, h => below_setCells hb vs (o + 1) _ (h.setCell (p := ⟨b, o, none⟩) hb v)
theorem splice_get_lt {α : Type} {off : Nat} {ys cs : List α} {i : Nat} (h : off + ys.length ≤ cs.length) (hi : i < off) : (splice off ys cs)[i]? = cs[i]? := by
  unfold splice
  rw [List.append_assoc, List.getElem?_append_left (by simp; omega), List.getElem?_take, if_pos hi]
theorem splice_get_mid {α : Type} {off : Nat} {ys cs : List α} {i : Nat} (h : off + ys.length ≤ cs.length) (hi : i < ys.length) : (splice off ys cs)[off + i]? = ys[i]? := by
  unfold splice
  have : (cs.take off).length = off := by simp; omega
  rw [List.append_assoc, List.getElem?_append_right (by omega), this, Nat.add_sub_cancel_left, List.getElem?_append_left hi]
theorem splice_get_ge {α : Type} {off : Nat} {ys cs : List α} {i : Nat} (h : off + ys.length ≤ cs.length) (hi : off + ys.length ≤ i) : (splice off ys cs)[i]? = cs[i]? := by
  unfold splice
  have h1 : (cs.take off ++ ys).length = off + ys.length := by simp; omega
  rw [List.getElem?_append_right (by omega), h1, List.getElem?_drop]
  congr 1; omega
theorem kc_setCells {w : World} {b off : Nat} {us : List Value} {cur : Array Value} {T : TypeId} {fr : Nat × Nat} (h : w.heap[b]? = some (.cells cur T fr)) (hl : off + us.length ≤ cur.size) {k : Nat} (hk : IsCells w k) : IsCells (w.setCells b off us) k := by
  by_cases e : k = b
  · subst e; exact ⟨_, T, fr, heap_setCells_at us off w cur h hl⟩
  · obtain ⟨c, T', q, h'⟩ := hk; exact ⟨c, T', q, (heap_setCells_ne e us off w).trans h'⟩
theorem kq_setCells {w : World} {b off : Nat} {us : List Value} {cur : Array Value} {T : TypeId} {fr : Nat × Nat} (h : w.heap[b]? = some (.cells cur T fr)) (hl : off + us.length ≤ cur.size) {x : Nat × TypeId × Nat} (hk : CellsOf w x) : CellsOf (w.setCells b off us) x := by
  obtain ⟨c, q, h', hs⟩ := hk
  by_cases e : x.1 = b
  · rw [e, h] at h'
    cases h'
    exact ⟨_, _, by rw [e]; exact heap_setCells_at us off w cur h hl, by
      have hs' : cur.size = x.2.2 := hs
      rw [List.size_toArray, splice_length (by simpa using hl), Array.length_toList]
      exact hs'⟩
  · exact ⟨c, q, (heap_setCells_ne e us off w).trans h', hs⟩
theorem km_setCells {w : World} {b off : Nat} {us : List Value} {cur : Array Value} {T : TypeId} {fr : Nat × Nat} (h : w.heap[b]? = some (.cells cur T fr)) {k : Nat} (hk : IsMap w k) : IsMap (w.setCells b off us) k := by
  obtain ⟨es, c, h'⟩ := hk
  have e : k ≠ b := by rintro rfl; rw [h] at h'; cases h'
  exact ⟨es, c, (heap_setCells_ne e us off w).trans h'⟩
/-- A block's cells for good, told of a world in which they were written. -/
theorem cell_of_heap {w : World} {b o : Nat} {cur : Array Value} {T : TypeId} {fr : Nat × Nat} (h : w.heap[b]? = some (.cells cur T fr)) : w.cell? ⟨b, o, none⟩ = cur[o]? := by
  simp [World.cell?, h]

section
variable {C : Cx} {E : Env} {G : Gh} {s : AS} {a : Act} {w : World}
theorem Stays.setCells {B l b off : Nat} {w : World} {o : Obj} {us : List Value} {cur : Array Value} {T : TypeId} {q : Nat × Nat} (h : Stays B w l o) (hb : w.heap[b]? = some (.cells cur T q)) : Stays B (w.setCells b off us) l o := by
  have hne : l ≠ b := by
    rintro rfl
    exact h.2.2 cur T q (Option.some.inj (h.2.1.symm.trans hb))
  exact ⟨h.1, (heap_setCells_ne hne us off w).trans h.2.1, h.2.2⟩
/-- A store into an own variable. -/
theorem Rel.store (h : Rel C E G s a w) {id b off : Nat} {cs ys : List AV} {us : List Value} (hs : s.ob[id]? = some cs) (hb : G.blk[id]? = some b) (hkc : IsCells w b) (hl : off + ys.length ≤ cs.length) (hy : VL G w ys us) :
    Rel C E G { s with ob := s.ob.set id (splice off ys cs) } a (w.setCells b off us) := by
  by_cases hnil : ys = []
  · subst hnil
    have : us = [] := List.eq_nil_of_length_eq_zero (by have := hy.1; simpa using this.symm)
    subst this
    have e1 : splice off [] cs = cs := by simp [splice]
    have e2 : s.ob.set id cs = s.ob := by
      have := List.getElem?_eq_some_iff.1 hs
      rw [← this.2]; simp
    rw [e1, e2]
    exact h
  obtain ⟨o1, o2, oo⟩ := h.ob id cs b hs hb
  have o2 : G.m b = 0 := o2.resolve_right (fun e => by
    have : 0 < ys.length := List.length_pos_iff.2 hnil
    rw [e.1] at hl
    simp only [List.length_nil] at hl
    omega)
  obtain ⟨cur, T, o3, o4, o5⟩ := oo.cells hkc
  have hyl := hy.1
  have hl' : off + us.length ≤ cur.size := by omega
  have mo : Mo G w G (w.setCells b off us) := ⟨fun b' o v h1 h2 => ⟨h1, by
    have hne : b' ≠ b := by rintro rfl; omega
    rw [World.cell?_of_block (heap_setCells_ne hne us off w)]; exact h2⟩, fun _ _ e => e, fun _ _ e => e, fun _ h => kq_setCells o3 hl' h, fun _ h => km_setCells o3 h⟩
  refine { h with tm := ?_, be := ?_, mz := ?_, ol := ?_, ob := ?_, lv := ?_, od := h.od, t1 := h.t1, fr := h.fr, ld := h.ld, m0 := h.m0, df := ⟨fun d hd => let ⟨D, e, k⟩ := h.df.1 d hd; ⟨D, e, k.setCells o3⟩, h.df.2⟩, mo := h.mo.trans mo, lp := (fun l o hl => (h.lp l o hl).setCells o3), ls := (fun l r t x h1 h2 => let ⟨v, e1, e2⟩ := h.ls l r t x h1 h2; ⟨v, e1, e2.mono mo⟩), mks := fun D hD => (h.mks D hD).setCells o3 }
  · intro t x hx
    obtain ⟨v, h1, h2⟩ := h.tm t x hx
    exact ⟨v, h1, h2.mono mo⟩
  · exact below_setCells o1 _ _ _ h.be
  · intro k hk
    rw [size_setCells] at hk
    exact h.mz k hk
  · simpa using h.ol
  · intro i ds b' hi hb'
    by_cases hii : i = id
    · subst hii
      rw [hb] at hb'; cases hb'
      have hi' : ds = splice off ys cs := by
        rw [List.getElem?_set_self (List.getElem?_eq_some_iff.1 hs).1] at hi
        exact (Option.some.inj hi).symm
      subst hi'
      refine ⟨o1, .inl o2, .inl ⟨_, T, heap_setCells_at us off w cur o3 hl', ?_, ?_⟩⟩
      · have e1 : (splice off us cur.toList).length = cur.size := by rw [splice_length (by simpa using hl')]; simp
        rw [List.size_toArray, e1, splice_length hl]; exact o4
      · intro k x v hk hv
        rw [List.getElem?_toArray] at hv
        have key : V G w x v ∧ v.oneCell' = true := by
          rcases Nat.lt_or_ge k off with h1 | h1
          · rw [splice_get_lt hl h1] at hk
            rw [splice_get_lt (by simpa using hl') h1] at hv
            exact o5 k x v hk (by simpa using hv)
          · rcases Nat.lt_or_ge k (off + ys.length) with h2 | h2
            · obtain ⟨j, rfl⟩ : ∃ j, k = off + j := ⟨k - off, by omega⟩
              rw [splice_get_mid hl (by omega)] at hk
              rw [splice_get_mid (by simpa using hl') (by omega)] at hv
              exact hy.2 j x v hk hv
            · rw [splice_get_ge hl h2] at hk
              rw [splice_get_ge (by simpa using hl') (by omega)] at hv
              exact o5 k x v hk (by simpa using hv)
        exact ⟨key.1.mono mo, key.2⟩
    · rw [List.getElem?_set_ne (fun e => hii e.symm)] at hi
      obtain ⟨a1, a2, a3⟩ := h.ob i ds b' hi hb'
      have hne : b' ≠ b := fun e => hii (h.od i id b (e ▸ hb') hb)
      exact ⟨a1, a2.keep rfl (heap_setCells_ne hne us off w), a3.mono mo (heap_setCells_ne hne us off w)⟩
  · intro t e hl
    obtain ⟨v, b1, b2⟩ := h.lv t e hl
    exact ⟨v, b1, b2.keep mo (fun g _ hn _ => ⟨heap_setCells_ne (by rintro rfl; exact hn id hb) us off w, rfl, hn⟩)⟩
/-- Cells behind the end of an own row are written. -/
theorem Rel.behind (h : Rel C E G s a w) {t : Nat} {e : TypeId} {g n c size : Nat} {cur : Array Value} {us : List Value} (ht : s.live t = some (.ty e)) (hv : G.tk t = some (.slice (some ⟨g, 0, none⟩) n c)) (hg : w.heap[g]? = some (.cells cur e (0, 0)))
    (hE : E.w0.heap.size ≤ g) (hm : G.m g = n * size) (hsz : cur.size = c * size) (k : Nat) (hk : us.length = k * size) (hc : n + k ≤ c) (hn : ∀ i : Nat, G.blk[i]? ≠ some g) :
    Rel C E { G with m := fun b => if b = g then (n + k) * size else G.m b } { s with live := fun u => if u = t then none else s.live u } a (w.setCells g (n * size) us) := by
  have hgl : g < w.heap.size := (Array.getElem?_eq_some_iff.1 hg).1
  have hnk : n * size + us.length = (n + k) * size := by rw [hk, Nat.add_mul]
  have hle : (n + k) * size ≤ c * size := Nat.mul_le_mul_right _ hc
  have hfit : n * size + us.length ≤ cur.size := by rw [hsz]; omega
  have mo : Mo G w { G with m := fun b => if b = g then (n + k) * size else G.m b } (w.setCells g (n * size) us) := by
    refine ⟨fun b o v h1 h2 => ?_, fun _ _ e => e, fun _ _ e => e, fun _ h => kq_setCells hg hfit h, fun _ h => km_setCells hg h⟩
    by_cases hb : b = g
    · subst hb
      refine ⟨by show o < (if b = b then _ else _); rw [if_pos rfl]; rw [hm] at h1; omega, ?_⟩
      rw [cell_of_heap (heap_setCells_at us _ w cur hg hfit)]
      rw [cell_of_heap hg] at h2
      rw [List.getElem?_toArray, splice_get_lt (by simpa using hfit) (by rw [hm] at h1; exact h1)]
      simpa using h2
    · exact ⟨by show o < (if b = g then _ else _); rw [if_neg hb]; exact h1, by rw [World.cell?_of_block (heap_setCells_ne hb us _ w)]; exact h2⟩
  have hlive : ∀ u e', (if u = t then none else s.live u) = some e' → s.live u = some e' ∧ u ≠ t := by
    intro u e' hu
    by_cases h1 : u = t
    · rw [if_pos h1] at hu; cases hu
    · rw [if_neg h1] at hu; exact ⟨hu, h1⟩
  refine { h with tm := ?_, be := ?_, mz := ?_, ob := ?_, lv := ?_, od := h.od, t1 := h.t1, fr := h.fr, m0 := ?_, ld := ?_, df := ⟨fun d hd => let ⟨D, e, k⟩ := h.df.1 d hd; ⟨D, e, k.setCells hg⟩, h.df.2⟩, mo := h.mo.trans mo, lp := (fun l o hl => (h.lp l o hl).setCells hg), ls := (fun l r t x h1 h2 => let ⟨v, e1, e2⟩ := h.ls l r t x h1 h2; ⟨v, e1, e2.mono mo⟩), mks := fun D hD => (h.mks D hD).setCells hg }
  · intro t x hx
    obtain ⟨v, h1, h2⟩ := h.tm t x hx
    exact ⟨v, h1, h2.mono mo⟩
  · exact below_setCells hE _ _ _ h.be
  · intro b hb
    show (if b = g then (n + k) * size else G.m b) = E.m0 b
    rw [if_neg (by omega)]; exact h.m0 b hb
  · intro b hb
    rw [size_setCells] at hb
    show (if b = g then (n + k) * size else G.m b) = 0
    rw [if_neg (by omega)]; exact h.mz b hb
  · intro i ds b' hi hb'
    obtain ⟨a1, a2, a3⟩ := h.ob i ds b' hi hb'
    have hne : b' ≠ g := fun e => hn i (e ▸ hb')
    exact ⟨a1, a2.keep (by show (if b' = g then _ else G.m b') = G.m b'; rw [if_neg hne]) (heap_setCells_ne hne us _ w), a3.mono mo (heap_setCells_ne hne us _ w)⟩
  · intro u e' hu
    obtain ⟨hu, hne⟩ := hlive u e' hu
    obtain ⟨v, b1, b2⟩ := h.lv u e' hu
    refine ⟨v, b1, b2.keep mo (fun g' hg' hn' _ => ?_)⟩
    have hgg : g' ≠ g := by
      rintro rfl
      exact hne (h.ld u t e' _ v _ g' hu ht b1 hv hg' rfl)
    exact ⟨heap_setCells_ne hgg us _ w, by show (if g' = g then _ else G.m g') = _; rw [if_neg hgg], hn'⟩
  · intro u u' e1 e2 v1 v2 g' h1 h2
    exact h.ld u u' e1 e2 v1 v2 g' (hlive u e1 h1).1 (hlive u' e2 h2).1
end
end Go.Proofs.AL
namespace Go.Proofs.AL
open Go Go.RowKit

section
variable {C : Cx} {E : Env} {G : Gh} {s : AS} {a : Act} {w : World}
/-- A row that is written to: where it lies, and what it holds. -/
theorem Rel.rowAt (h : Rel C E G s a w) {t : Nat} {e : TypeId} {xs : List (List AV)} {A : Option Addr} {n c : Nat} (ht : s.live t = some (.row e xs)) (hv : G.tk t = some (.slice A n c)) : RowT C E G w e xs (.slice A n c) := by
  obtain ⟨v, h1, h2⟩ := h.lv t _ ht
  rw [hv] at h1
  cases h1
  exact h2
/-- A store into a row's element. -/
theorem Rel.storeRow (h : Rel C E G s a w) {t : Nat} {e : TypeId} {xs : List (List AV)} {j off g n c : Nat} {el ys : List AV} {us : List Value} (ht : s.live t = some (.row e xs)) (hv : G.tk t = some (.slice (some ⟨g, 0, none⟩) n c))
    (hj : xs[j]? = some el) (hl : off + ys.length ≤ el.length) (hy : VL G w ys us) :
    Rel C E G { s with live := fun u => if u = t then some (.row e (xs.set j (splice off ys el))) else s.live u } a (w.setCells g (j * el.length + off) us) := by
  rcases h.rowAt ht hv with ⟨h0, hx⟩ | ⟨g', n', c', size, cur, h2, h3, h4, h5, h6, h7, h8, h9, h10, h11, h12, h13, h14⟩
  · subst hx; simp at hj
  obtain ⟨rfl, rfl, rfl⟩ : g = g' ∧ n = n' ∧ c = c' := by
    injection h2 with e1 e2 e3
    injection e1 with e1
    injection e1 with e1 _ _
    exact ⟨e1, e2, e3⟩
  have hjl : j < xs.length := (List.getElem?_eq_some_iff.1 hj).1
  have hel : el.length = size := h13 el (List.mem_of_getElem? hj)
  have hyl := hy.1
  have hjs : (j + 1) * size ≤ c * size := Nat.mul_le_mul_right _ (by omega)
  rw [Nat.add_mul] at hjs
  have hl' : j * el.length + off + us.length ≤ cur.size := by rw [hel, h9]; omega
  have mo : Mo G w G (w.setCells g (j * el.length + off) us) := ⟨fun b' o v q1 q2 => ⟨q1, by
    have hne : b' ≠ g := by rintro rfl; omega
    rw [World.cell?_of_block (heap_setCells_ne hne us _ w)]; exact q2⟩, fun _ _ e => e, fun _ _ e => e, fun _ h => kq_setCells h4 hl' h, fun _ h => km_setCells h4 h⟩
  have hlive : ∀ (u : Nat) (k : Tk), (if u = t then some (Tk.row e (xs.set j (splice off ys el))) else s.live u) = some k → (u = t ∧ k = .row e (xs.set j (splice off ys el))) ∨ (u ≠ t ∧ s.live u = some k) := by
    intro u k hu
    by_cases q : u = t
    · rw [if_pos q] at hu; cases hu; exact .inl ⟨q, rfl⟩
    · rw [if_neg q] at hu; exact .inr ⟨q, hu⟩
  refine { h with tm := ?_, be := ?_, mz := ?_, ob := ?_, lv := ?_, ld := ?_, df := ⟨fun d hd => let ⟨D, e, k⟩ := h.df.1 d hd; ⟨D, e, k.setCells h4⟩, h.df.2⟩, mo := h.mo.trans mo, lp := (fun l o hl => (h.lp l o hl).setCells h4), ls := (fun l r t x q1 q2 => let ⟨v, e1, e2⟩ := h.ls l r t x q1 q2; ⟨v, e1, e2.mono mo⟩), mks := fun D hD => (h.mks D hD).setCells h4 }
  · intro u x hx
    obtain ⟨v, q1, q2⟩ := h.tm u x hx
    exact ⟨v, q1, q2.mono mo⟩
  · exact below_setCells h3 _ _ _ h.be
  · intro k hk
    rw [size_setCells] at hk
    exact h.mz k hk
  · intro i ds b' hi hb'
    obtain ⟨a1, a2, a3⟩ := h.ob i ds b' hi hb'
    have hne : b' ≠ g := fun e => h11 i (e ▸ hb')
    exact ⟨a1, a2.keep rfl (heap_setCells_ne hne us _ w), a3.mono mo (heap_setCells_ne hne us _ w)⟩
  · intro u k hu
    rcases hlive u k hu with ⟨rfl, rfl⟩ | ⟨hne, hu⟩
    · refine ⟨_, hv, .inr ⟨g, n, c, size, _, rfl, h3, heap_setCells_at us _ w cur h4 hl', h5, h6, h7, h8, ?_, h10, h11, by simpa using h12, ?_, ?_⟩⟩
      · rw [List.size_toArray, splice_length (by simpa using hl')]; simpa using h9
      · intro el' hel'
        rcases List.mem_or_eq_of_mem_set hel' with q | q
        · exact h13 el' q
        · rw [q, splice_length hl, hel]
      · intro j' i el' x u' q1 q2 q3
        rw [List.getElem?_toArray] at q3
        by_cases hjj : j' = j
        · subst hjj
          rw [List.getElem?_set_self hjl] at q1
          cases q1
          have hil : i < size := by have := (List.getElem?_eq_some_iff.1 q2).1; rw [splice_length hl] at this; omega
          have key : V G w x u' ∧ u'.oneCell' = true := by
            rcases Nat.lt_or_ge i off with p1 | p1
            · rw [splice_get_lt hl p1] at q2
              rw [splice_get_lt (by simpa using hl') (by rw [hel]; omega)] at q3
              exact h14 j' i el x u' hj q2 (by simpa using q3)
            · rcases Nat.lt_or_ge i (off + ys.length) with p2 | p2
              · obtain ⟨i', rfl⟩ : ∃ i', i = off + i' := ⟨i - off, by omega⟩
                rw [splice_get_mid hl (by omega)] at q2
                rw [show j' * size + (off + i') = j' * el.length + off + i' by rw [hel]; omega, splice_get_mid (by simpa using hl') (by omega)] at q3
                exact hy.2 i' x u' q2 q3
              · rw [splice_get_ge hl p2] at q2
                rw [splice_get_ge (by simpa using hl') (by rw [hel]; omega)] at q3
                exact h14 j' i el x u' hj q2 (by simpa using q3)
          exact ⟨key.1.mono mo, key.2⟩
        · rw [List.getElem?_set_ne (fun e => hjj e.symm)] at q1
          have hil : i < size := by have := (List.getElem?_eq_some_iff.1 q2).1; rw [h13 el' (List.mem_of_getElem? q1)] at this; exact this
          have hout : j' * size + i < j * el.length + off ∨ j * el.length + off + us.length ≤ j' * size + i := by
            rw [hel]
            rcases Nat.lt_or_ge j' j with p | p
            · have : (j' + 1) * size ≤ j * size := Nat.mul_le_mul_right _ p
              rw [Nat.add_mul] at this
              exact .inl (by omega)
            · have : (j + 1) * size ≤ j' * size := Nat.mul_le_mul_right _ (by omega)
              rw [Nat.add_mul] at this
              exact .inr (by omega)
          rcases hout with p | p
          · rw [splice_get_lt (by simpa using hl') p] at q3
            have := h14 j' i el' x u' q1 q2 (by simpa using q3)
            exact ⟨this.1.mono mo, this.2⟩
          · rw [splice_get_ge (by simpa using hl') p] at q3
            have := h14 j' i el' x u' q1 q2 (by simpa using q3)
            exact ⟨this.1.mono mo, this.2⟩
    · obtain ⟨v, b1, b2⟩ := h.lv u k hu
      refine ⟨v, b1, b2.keep mo (fun g' hg' hn' _ => ?_)⟩
      have hgg : g' ≠ g := by
        rintro rfl
        exact hne (h.ld u t k _ v _ g' hu ht b1 hv hg' rfl)
      exact ⟨heap_setCells_ne hgg us _ w, rfl, hn'⟩
  · intro u u' k1 k2 v1 v2 g' q1 q2
    have old : ∀ (u : Nat) (k : Tk), (if u = t then some (Tk.row e (xs.set j (splice off ys el))) else s.live u) = some k → ∃ k', s.live u = some k' := fun u k hu => by
      rcases hlive u k hu with ⟨rfl, _⟩ | ⟨_, hu⟩
      · exact ⟨_, ht⟩
      · exact ⟨_, hu⟩
    obtain ⟨k1', d1⟩ := old u k1 q1
    obtain ⟨k2', d2⟩ := old u' k2 q2
    exact h.ld u u' k1' k2' v1 v2 g' d1 d2
end
end Go.Proofs.AL
namespace Go.Proofs.AL
open Go Go.RowKit
set_option linter.unusedSimpArgs false

/-! ## Operations that touch memory -/
inductive Eff where
  | val (x : AV)
  | ld (id : Nat) (x : AV)
  | st (id off : Nat) (cs : List AV)
  | new (i : Nat) (cs : List AV)
  | newm (i : Nat)
  | row (e : TypeId) (xs : List (List AV))
  | app (t : Nat) (e : TypeId) (xs : List (List AV))
  | ldr (x : AV)
  | str (t : Nat) (e : TypeId) (xs : List (List AV))
  | appr (t : Nat) (e : TypeId) (xs : List (List AV))

def AV.isTup : AV → Bool
  | .tup _ => true
  | _ => false
def readAt (P : Program) (t : TypeId) (off : Nat) (cs : List AV) : Option AV :=
  match aggT P t, szOf P t with
  | some true, some n => if off + n ≤ cs.length then some (AV.agg ((cs.drop off).take n)) else none
  | some false, _ => cs[off]?
  | _, _ => none
def infoT (P : Program) (e : TypeId) : Option (Nat × Nat) :=
  match P.info? e with
  | some i => match i.zero with
    | some z => if z.cells.size = i.size then some (i.size, i.bytes) else none
    | none => none
  | none => none
def tyOf : Option Tk → Option TypeId
  | some (.ty e) => some e
  | _ => none
theorem tyOf_ok {o : Option Tk} {e : TypeId} (h : tyOf o = some e) : o = some (.ty e) := by
  unfold tyOf at h
  split at h <;> cases h
  rfl
/-- Is a struct's first field a pointer to such a struct (a strings.Builder)? -/
def selfT (P : Program) (t : TypeId) : Bool := match P.underlying t with
  | some (.struct fs) => match fs[0]? with
    | some f => match P.underlying f.type with
      | some (.pointer u) => u == t
      | _ => false
    | none => false
  | _ => false
def selfC (P : Program) (t : TypeId) (n : Nat) : List AV → List AV
  | .nilp :: cs => (if selfT P t = true then .tp n t (cs.length + 1) false else .nilp) :: cs
  | cs => cs
def newA (P : Program) (t : TypeId) (n : Nat) (z : AV) : Option Eff := if z.isTup then none else some (.new n (selfC P t n z.cells))
def newE (n : Nat) (z : AV) : Option Eff := if z.isTup then none else some (.new n z.cells)
def stE (P : Program) (t : TypeId) (cs : List AV) (id off : Nat) (x : AV) : Option Eff :=
  if x.isTup = false ∧ szOf P t = some x.cells.length ∧ off + x.cells.length ≤ cs.length then some (.st id off x.cells) else none
def rowOf : Option Tk → Option (TypeId × List (List AV))
  | some (.row e xs) => some (e, xs)
  | _ => none
theorem rowOf_ok {o : Option Tk} {q : TypeId × List (List AV)} (h : rowOf o = some q) : o = some (.row q.1 q.2) := by
  unfold rowOf at h
  split at h <;> cases h
  rfl
/-- A place in an element of a row that is written to. -/
def ldrE (P : Program) (ty : TypeId) (o : Option Tk) (j off sz : Nat) : Option Eff :=
  (rowOf o).bind fun q => (q.2[j]?).bind fun el => if el.length = sz then (readAt P ty off el).map .ldr else none
def spl (off sz : Nat) (ys el : List AV) : List AV := if off = 0 ∧ ys.length = sz then ys else splice off ys el
theorem spl_eq {off sz : Nat} {ys el : List AV} (h : el.length = sz) : spl off sz ys el = splice off ys el := by
  unfold spl
  split
  · rename_i hc
    obtain ⟨rfl, hl⟩ := hc
    unfold splice
    rw [List.take_zero, List.nil_append, List.drop_eq_nil_of_le (by omega), List.append_nil]
  · rfl
def strE (P : Program) (ty : TypeId) (o : Option Tk) (t j off sz : Nat) (x : AV) : Option Eff :=
  (rowOf o).bind fun q => (q.2[j]?).bind fun el => if el.length = sz ∧ x.isTup = false ∧ szOf P ty = some x.cells.length ∧ off + x.cells.length ≤ el.length then some (.str t q.1 (q.2.set j (spl off sz x.cells el))) else none
/-- A row of so many zero elements. -/
def mkE (P : Program) (t : TypeId) (l c : AV) : Option Eff := match l, c with
  | .int _ n, .int _ m => (elT P t).bind fun e => (infoT P e).bind fun q => (zeroT P e).bind fun z =>
    if 0 < q.1 ∧ z.isTup = false ∧ z.cells.length = q.1 ∧ n = m ∧ 0 ≤ n ∧ n * q.2 ≤ 140737488355328 ∧ n ≤ 140737488355328 then some (.appr 1 e (List.replicate n.toNat z.cells)) else none
  | _, _ => none
def rowE (P : Program) (t : TypeId) (n : Nat) (qs : List (Nat × AV)) : Option Eff :=
  (elT P t).bind fun e => (infoT P e).bind fun q =>
    if 0 < q.1 ∧ n * q.1 ≤ 16777216 ∧ qs.map (·.1) = List.range n ∧ ∀ p ∈ qs, p.2.isTup = false ∧ p.2.cells.length = q.1 then some (.row e (qs.map fun p => p.2.cells.map er1)) else none
/-- A text's bytes, as a row. -/
def strRows (b : ByteArray) : List (List AV) := b.data.toList.map fun c => [AV.int .u8 (c.toNat : Int)]
def appE (P : Program) (s : AS) (t t' : TypeId) (x y : AV) : Option Eff :=
  match x, y with
  | .sl k xs, .sl _ ys => (elT P t).bind fun e => (elT P t').bind fun _ => (infoT P e).bind fun q =>
    if 0 < q.1 ∧ 0 < q.2 ∧ (xs.length + ys.length) * q.2 ≤ 140737488355328 ∧ (∀ el ∈ xs, el.length = q.1) ∧ (∀ el ∈ ys, el.length = q.1) ∧ (k = 1 ∨ (k = 2 ∧ ys ≠ []) ∨ (k ≠ 0 ∧ k ≠ 2 ∧ tyOf (s.live k) = some e)) then some (.app k e (xs ++ ys.map (·.map er1))) else if k = 2 ∧ ys = [] then some (.ldr (.sl 2 xs)) else none
  | .sl k xs, .str b => (elT P t).bind fun e => (infoT P e).bind fun q =>
    if strT P t' = true ∧ q.1 = 1 ∧ 0 < q.2 ∧ (xs.length + b.size) * q.2 ≤ 140737488355328 ∧ (∀ el ∈ xs, el.length = 1) ∧ (k = 1 ∨ (k = 2 ∧ b.size ≠ 0) ∨ (k ≠ 0 ∧ k ≠ 2 ∧ tyOf (s.live k) = some e)) then some (.app k e (xs ++ strRows b)) else none
  | _, _ => none
/-- The row that will be written to: its token, what it holds. None, where the mark of rows to be written to (token 0) is there: a new one. -/
def rowArg (P : Program) (s : AS) (t : TypeId) : AV → Option (Nat × List (List AV))
  | .own k n => (rowOf (s.live k)).bind fun q => if elT P t = some q.1 ∧ q.2.length = n then some (k, q.2) else none
  | .sl k xs => if (tyOf (s.live 0)).isSome = true ∧ elT P t = tyOf (s.live 0) ∧ (k = 1 ∨ k = 2) ∧ xs.length = 0 then some (1, []) else none
  | _ => none
def appR (P : Program) (t t' : TypeId) (k : Nat) (xs : List (List AV)) (x y : AV) : Option Eff :=
  match y with
  | .sl _ ys => (elT P t).bind fun e => (elT P t').bind fun _ => (infoT P e).bind fun q =>
    if ys = [] then some (.ldr x) else if 0 < q.1 ∧ 0 < q.2 ∧ (xs.length + ys.length) * q.2 ≤ 140737488355328 ∧ (∀ el ∈ ys, el.length = q.1) then some (.appr k e (xs ++ ys.map (·.map er1))) else none
  | _ => none
def appA (P : Program) (s : AS) (t t' : TypeId) (x y : AV) : Option Eff :=
  match rowArg P s t x with
  | some q => appR P t t' q.1 q.2 x y
  | none => appE P s t t' x y
def mputE (P : Program) (t : TypeId) (id : Nat) (cs : List AV) (k x : AV) : Option Eff := (mapT P t).bind fun q => (asMpo cs).bind fun m => (mput P q.1 m.1 m.2 k x).map fun r => .st id 0 [.mpo r.1 r.2]
def mgetE (P : Program) (t : TypeId) (id : Nat) (cs : List AV) (k : AV) (ok : Bool) : Option Eff := (mapT P t).bind fun q => (asMpo cs).bind fun m => (mget P q.1 q.2 m.1 m.2 k).map fun r => .ld id (okTup ok r)
def mnilE (P : Program) (t : TypeId) (k : AV) (ok : Bool) : Option Eff := (mapT P t).bind fun q => if kOk P q.1 k = true then (zeroT P q.2).map fun z => .val (okTup ok (z, false)) else none
def mlenE (P : Program) (t : TypeId) (id : Nat) (cs : List AV) : Option Eff := (mapT P t).bind fun _ => (asMpo cs).map fun m => .ld id (.int .i64 m.1.length)
def mputA (P : Program) (s : AS) (t : TypeId) (k x : AV) : AV → Option Eff
  | .mp id => (s.ob[id]?).bind fun cs => mputE P t id cs k x
  | _ => none
def mgetA (P : Program) (s : AS) (t : TypeId) (k : AV) (ok : Bool) : AV → Option Eff
  | .mp id => (s.ob[id]?).bind fun cs => mgetE P t id cs k ok
  | .nilm => mnilE P t k ok
  | _ => none
def lenE (P : Program) (s : AS) (t : TypeId) : AV → Option Eff
  | .mp id => (s.ob[id]?).bind fun cs => mlenE P t id cs
  | x => (lenOf P t x).map .val
def asIntU : AV → Option Unit
  | .int _ _ => some ()
  | _ => none
def resv (s : AS) : Option Operand → Option Unit
  | none => some ()
  | some o => (evalO s o).bind asIntU
def ev (P : Program) (s : AS) (op : Op) : Option Eff :=
  match op with
  | .load t y => (evalO s y).bind fun p => match p with
    | .ptr id off => (s.ob[id]?).bind fun cs => (readAt P t off cs).map (.ld id)
    | .cptr cs => (readAt P t 0 cs).map .val
    | .eptr k j off sz => ldrE P t (s.live k) j off sz
    | _ => none
  | .store t y x => (evalO s y).bind fun p => (evalO s x).bind fun v => match p with
    | .ptr id off => (s.ob[id]?).bind fun cs => stE P t cs id off v
    | .eptr k j off sz => strE P t (s.live k) k j off sz v
    | _ => none
  | .alloc t => (zeroT P t).bind (newA P t s.ob.length)
  | .box _ x => (evalO s x).bind (newE s.ob.length)
  | .buildSlice t n ps => (evalP s ps.toList).bind (rowE P t n)
  | .makeSlice t l c => (evalO s l).bind fun lv => (evalO s c).bind fun cv => mkE P t lv cv
  | .makeMap t r => (mapT P t).bind fun _ => (resv s r).map fun _ => .newm s.ob.length
  | .insert t m k x => (evalO s m).bind fun p => (evalO s k).bind fun kv => (evalO s x).bind fun xv => mputA P s t kv xv p
  | .mapUpdate t m k x => (evalO s m).bind fun p => (evalO s k).bind fun kv => (evalO s x).bind fun xv => mputA P s t kv xv p
  | .lookup t m k ok => (evalO s m).bind fun p => (evalO s k).bind fun kv => mgetA P s t kv ok p
  | .call c => match c.callee with
    | .builtin .append => match evalL s c.args.toList, c.argTypes.toList with
      | some [x, y], [t, t'] => appA P s t t' x y
      | _, _ => none
    | .builtin .len => match evalL s c.args.toList, c.argTypes.toList with
      | some [x], [t] => lenE P s t x
      | _, _ => none
    | _ => (evP P s op).map .val
  | _ => (evP P s op).map .val

def AS.tok (s : AS) (e : TypeId) : AS := { s with live := fun t => if t = s.next then some (.ty e) else s.live t, next := s.next + 1 }
def AS.tokR (s : AS) (e : TypeId) (xs : List (List AV)) : AS := { s with live := fun t => if t = s.next then some (.row e xs) else s.live t, next := s.next + 1 }
def AS.setRow (s : AS) (t : Nat) (e : TypeId) (xs : List (List AV)) : AS := { s with live := fun u => if u = t then some (.row e xs) else s.live u }
def AS.drop (s : AS) (t0 : Nat) : AS := { s with live := fun t => if t = t0 then none else s.live t }
def apEff (s : AS) (d : Option Nat) : Eff → AS
  | .val x => s.put d x
  | .ld _ x => s.put d x
  | .st id off cs => ({ s with ob := match s.ob[id]? with | some c => s.ob.set id (splice off cs c) | none => s.ob } : AS).del d
  | .new _ cs => ({ s with ob := s.ob ++ [cs] } : AS).put d (.ptr s.ob.length 0)
  | .newm _ => ({ s with ob := s.ob ++ [[.mpo [] []]] } : AS).put d (.mp s.ob.length)
  | .row e xs => s.put d (.sl 2 xs)
  | .app t e xs => ((s.drop t).tok e).put d (.sl s.next xs)
  | .ldr x => s.put d x
  | .str t e xs => (s.setRow t e xs).del d
  | .appr t e xs => ((s.drop t).tokR e xs).put d (.own s.next xs.length)

/-- What an operation leaves. -/
def Res (C : Cx) (E : Env) (s : AS) (d : Option Nat) (a : Act) (r : Result Next) : Prop :=
  ∃ w' G' v, (r = .ok (.value v) w' ∨ (r = .ok .skip w' ∧ v = undef)) ∧ Rel C E G' s (a.put d v) w'

section
variable {C : Cx} {E : Env} {G : Gh} {s : AS} {a : Act} {w : World} {P : Program}
theorem infoT_ok {e : TypeId} {sz by_ : Nat} (h : infoT P e = some (sz, by_)) : ∃ i z, P.info? e = some i ∧ i.zero = some z ∧ z.cells.size = i.size ∧ i.size = sz ∧ i.bytes = by_ ∧ szOf P e = some sz := by
  unfold infoT at h
  cases hi : P.info? e with
  | none => rw [hi] at h; cases h
  | some i =>
    rw [hi] at h
    dsimp only at h
    cases hz : i.zero with
    | none => rw [hz] at h; cases h
    | some z =>
      rw [hz] at h
      dsimp only at h
      split at h
      case isFalse => cases h
      rename_i hs
      cases h
      exact ⟨i, z, rfl, hz, hs, rfl, rfl, by simp [szOf, hi]⟩
theorem readAt_run {t : TypeId} {b o : Nat} {cs : List AV} {x : AV} (f : Nat → Value) (hc : ∀ (i : Nat) (y : AV), cs[i]? = some y → w.cell? ⟨b, o + i, none⟩ = some (f i) ∧ V G w y (f i) ∧ (f i).oneCell' = true) {k : Nat} (h : readAt P t k cs = some x) :
    ∃ v, (Instr.loadAt t (.pointer (some ⟨b, o + k, none⟩))).run P w = .ok v w ∧ V G w x v := by
  unfold readAt at h
  cases ha : aggT P t with
  | none => rw [ha] at h; cases h
  | some q =>
    have hbase : ∀ m : Sem Value, (loadVar t ⟨b, o + k, none⟩ = m) → (Instr.loadAt t (.pointer (some ⟨b, o + k, none⟩))).run P w = m.run P w := by
      rintro m rfl
      unfold Instr.loadAt Instr.sureAddr
      simp only [Sem.run_bind, Sem.run_pure, Result.andThen]
    rw [hbase _ rfl]
    unfold loadVar
    simp only [Sem.run_bind, run_aggT ha, Result.andThen]
    cases q with
    | true =>
      cases hn : szOf P t with
      | none => rw [ha, hn] at h; cases h
      | some n =>
        rw [ha, hn] at h
        dsimp only at h
        split at h
        case isFalse => cases h
        rename_i hle
        cases h
        have hl : ((List.range n).map fun i => f (k + i)).length = n := by simp
        have hr := run_loadCells_list (P := P) (w := w) ⟨b, o + k, none⟩ ((List.range n).map fun i => f (k + i)) (fun j v hj => by
          rw [List.getElem?_map] at hj
          obtain ⟨i, hi, rfl⟩ := Option.map_eq_some_iff.1 hj
          have hi' := (List.getElem?_eq_some_iff.1 hi)
          obtain ⟨h1, h2⟩ := hi'
          simp at h1 h2
          subst h2
          rw [Addr.add_lit, Nat.add_assoc]
          exact (hc (k + j) _ (List.getElem?_eq_getElem (by omega))).1)
        rw [hl] at hr
        refine ⟨.agg ((List.range n).map fun i => f (k + i)).toArray, ?_, VL.agg ⟨by simp; omega, fun i x v hx hv => ?_⟩⟩
        · simp only [if_true, Sem.run_bind, run_szOf hn, Result.andThen, hr, Sem.run_pure]
        · simp only [List.getElem?_map] at hv
          obtain ⟨i', hi', rfl⟩ := Option.map_eq_some_iff.1 hv
          obtain ⟨h1, h2⟩ := List.getElem?_eq_some_iff.1 hi'
          simp at h1 h2
          subst h2
          rw [List.getElem?_take, if_pos (by omega), List.getElem?_drop] at hx
          exact (hc _ x hx).2
    | false =>
      rw [ha] at h
      obtain ⟨h1, h2, _⟩ := hc k x h
      exact ⟨f k, by simp [load, Sem.run, h1], h2⟩
theorem newE_ok (h : Rel C E G s a w) {d : Option Nat} (hd : ∀ t, d = some t → t < s.N) {z : AV} {v : Value} (hV : V G w z v) (t : TypeId) {eff : Eff} (he : newE s.ob.length z = some eff) :
    Res C E (apEff s d eff) d a (.ok (.value (.pointer (some ⟨w.heap.size, 0, none⟩))) (w.alloc (.cells v.cells t))) := by
  unfold newE at he
  split at he
  · cases he
  rename_i hz
  cases he
  have hnt : ∀ vs, z ≠ .tup vs := by rintro vs rfl; exact hz rfl
  have hc := hV.cells hnt
  have hb : Below w.heap.size w (w.alloc (.cells v.cells t)) := (Below.refl _ _).alloc (Nat.le_refl _) _
  have hsz : (w.alloc (.cells v.cells t)).heap.size = w.heap.size + 1 := Array.size_push _
  have h1 := h.grow (m' := G.m) hb (fun _ _ => rfl) (fun b hb' => h.mz b (by omega))
  have mo := h.mo_of (m' := G.m) hb (fun _ _ => rfl)
  have h2 := h1.addObj (g := w.heap.size) (cs := z.cells) h.be.size (h.mz _ (Nat.le_refl _)) (fun i e => by
    have := h.lt (i := i) (b := w.heap.size) e; omega) (fun u e' x hu hx => by
      intro e5
      have := h.own_lt hu hx e5
      omega) (.inl ⟨v.cells, t, heap_alloc_new w _, by simpa using Nat.le_of_eq hc.1, fun k x u hx hu => by
        obtain ⟨g1, g2⟩ := hc.2 k x u hx (by simpa using hu)
        exact ⟨g1.mono mo, g2⟩⟩)
  refine ⟨_, _, _, .inl rfl, h2.put (d := d) hd (.ptr ?_ ⟨_, _, _, heap_alloc_new w _⟩)⟩
  show (G.blk ++ [w.heap.size])[s.ob.length]? = some w.heap.size
  rw [← h.ol]; simp
theorem newA_ok (h : Rel C E G s a w) {d : Option Nat} (hd : ∀ t, d = some t → t < s.N) {z : AV} {v : Value} (hV : V G w z v) (t : TypeId) {eff : Eff} (he : newA C.P t s.ob.length z = some eff) :
    Res C E (apEff s d eff) d a (.ok (.value (.pointer (some ⟨w.heap.size, 0, none⟩))) (w.alloc (.cells v.cells t))) := by
  unfold newA at he
  split at he
  · cases he
  rename_i hz
  cases he
  have hnt : ∀ vs, z ≠ .tup vs := by rintro vs rfl; exact hz rfl
  have hc := hV.cells hnt
  have hsl : (selfC C.P t s.ob.length z.cells).length = z.cells.length := by
    unfold selfC
    split
    · rename_i cs e
      rw [e]; rfl
    · rfl
  have hsc : ∀ (k : Nat) (x : AV), (selfC C.P t s.ob.length z.cells)[k]? = some x → z.cells[k]? = some x ∨ (k = 0 ∧ ∃ n, x = .tp s.ob.length t n false ∧ n = z.cells.length ∧ z.cells[0]? = some .nilp) := by
    intro k x hx
    unfold selfC at hx
    split at hx
    · rename_i cs e
      rw [e]
      cases k with
      | zero =>
        by_cases hst : selfT C.P t = true
        · rw [if_pos hst] at hx
          exact .inr ⟨rfl, _, (Option.some.inj hx).symm, rfl, rfl⟩
        · rw [if_neg hst] at hx
          exact .inl hx
      | succ k => exact .inl hx
    · exact .inl hx
  have hb : Below w.heap.size w (w.alloc (.cells v.cells t)) := (Below.refl _ _).alloc (Nat.le_refl _) _
  have hsz : (w.alloc (.cells v.cells t)).heap.size = w.heap.size + 1 := Array.size_push _
  have h1 := h.grow (m' := G.m) hb (fun _ _ => rfl) (fun b hb' => h.mz b (by omega))
  have mo := h.mo_of (m' := G.m) hb (fun _ _ => rfl)
  have h2 := h1.addObj' (g := w.heap.size) (cs := selfC C.P t s.ob.length z.cells) h.be.size (h.mz _ (Nat.le_refl _)) (fun i e => by
    have := h.lt (i := i) (b := w.heap.size) e; omega) (fun u e' x hu hx => by
      intro e5
      have := h.own_lt hu hx e5
      omega) (.inl ⟨v.cells, t, heap_alloc_new w _, by rw [hsl]; simpa using Nat.le_of_eq hc.1, fun k x u hx hu => by
        rcases hsc k x hx with hx' | ⟨rfl, n, rfl, hn, hz0⟩
        · obtain ⟨g1, g2⟩ := hc.2 k x u hx' (by simpa using hu)
          exact ⟨(g1.mono mo).mono Mo.addBlk, g2⟩
        · obtain ⟨g1, g2⟩ := hc.2 0 .nilp u hz0 (by simpa using hu)
          cases g1
          refine ⟨.tp0 (b := w.heap.size) ?_ ⟨v.cells, (0, 0), heap_alloc_new w _, ?_⟩, rfl⟩
          · show (G.blk ++ [w.heap.size])[s.ob.length]? = some w.heap.size
            rw [← h.ol]; simp
          · have := hc.1
            have e2 : v.cells.toList.length = v.cells.size := Array.length_toList
            show v.cells.size = n
            omega⟩)
  refine ⟨_, _, _, .inl rfl, h2.put (d := d) hd (.ptr ?_ ⟨_, _, _, heap_alloc_new w _⟩)⟩
  show (G.blk ++ [w.heap.size])[s.ob.length]? = some w.heap.size
  rw [← h.ol]; simp
end
end Go.Proofs.AL
namespace Go.Proofs.AL
open Go Go.RowKit
set_option linter.unusedSimpArgs false
set_option linter.unusedVariables false

section
variable {C : Cx} {E : Env} {G : Gh} {s : AS} {a : Act} {w : World}
theorem Stays.setMap {B l b : Nat} {w : World} {o o' : Obj} {es : Array MapEntry} {c : Nat} (h : Stays B w l o) (hb : w.heap[b]? = some (.map es c)) (ho : ∀ es c, o ≠ .map es c) : Stays B (w.putObj b o') l o := by
  have hne : l ≠ b := by
    rintro rfl
    exact ho es c (Option.some.inj (h.2.1.symm.trans hb))
  exact ⟨h.1, (World.putObj_heap_other hne).trans h.2.1, h.2.2⟩
theorem Rel.mo_map (h : Rel C E G s a w) {b : Nat} {es es' : Array MapEntry} {c c' : Nat} (hb : w.heap[b]? = some (.map es c)) : Mo G w G (w.putObj b (.map es' c')) := by
  have hlt : b < w.heap.size := (Array.getElem?_eq_some_iff.1 hb).1
  refine ⟨fun b' o v h1 h2 => ⟨h1, ?_⟩, fun _ _ e => e, fun _ _ e => e, fun k hk => ?_, fun k hk => ?_⟩
  · have hne : b' ≠ b := by
      rintro rfl
      unfold World.cell? at h2
      rw [hb] at h2
      simp at h2
    rw [World.cell?_of_block (World.putObj_heap_other hne)]; exact h2
  · obtain ⟨cur, q, e, hs⟩ := hk
    have hne : k.1 ≠ b := by rintro rfl; rw [hb] at e; cases e
    exact ⟨cur, q, (World.putObj_heap_other hne).trans e, hs⟩
  · by_cases e : k = b
    · subst e; exact ⟨es', c', World.putObj_heap_same hlt⟩
    · obtain ⟨es2, c2, e2⟩ := hk
      exact ⟨es2, c2, (World.putObj_heap_other e).trans e2⟩
/-- A map's entries are others now. -/
theorem Rel.setMap (h : Rel C E G s a w) {id b : Nat} {ks vs ks' vs' : List AV} {es es' : Array MapEntry} {c c' : Nat} (hs : s.ob[id]? = some [.mpo ks vs]) (hb : G.blk[id]? = some b) (hm : w.heap[b]? = some (.map es c))
    (hn : MapOb G (w.putObj b (.map es' c')) b [.mpo ks' vs']) : Rel C E G { s with ob := s.ob.set id [.mpo ks' vs'] } a (w.putObj b (.map es' c')) := by
  obtain ⟨o1, o2, oo⟩ := h.ob id _ b hs hb
  have hlt : b < w.heap.size := (Array.getElem?_eq_some_iff.1 hm).1
  have mo := h.mo_map (es' := es') (c' := c') hm
  refine { h with tm := ?_, be := ?_, mz := ?_, ol := ?_, ob := ?_, lv := ?_, od := h.od, t1 := h.t1, fr := h.fr, ld := h.ld, m0 := h.m0, df := ⟨fun d hd => let ⟨D, e, k⟩ := h.df.1 d hd; ⟨D, e, k.setMap hm (by rintro _ _ ⟨⟩)⟩, h.df.2⟩, mo := h.mo.trans mo, lp := (fun l r hl => (h.lp l r hl).setMap hm (by rintro _ _ ⟨⟩)), ls := (fun l r t x h1 h2 => let ⟨v, e1, e2⟩ := h.ls l r t x h1 h2; ⟨v, e1, e2.mono mo⟩), mks := fun D hD => (h.mks D hD).setMap hm (by rintro _ _ ⟨⟩) }
  · intro t x hx
    obtain ⟨v, h1, h2⟩ := h.tm t x hx
    exact ⟨v, h1, h2.mono mo⟩
  · exact ⟨h.be.os, h.be.tape, h.be.output, by simpa using h.be.size, fun k hk => (World.putObj_heap_other (by omega)).trans (h.be.block k hk)⟩
  · intro k hk
    exact h.mz k (by simpa using hk)
  · simpa using h.ol
  · intro i ds b' hi hb'
    by_cases hii : i = id
    · subst hii
      rw [hb] at hb'; cases hb'
      have hi' : ds = [.mpo ks' vs'] := by
        rw [List.getElem?_set_self (List.getElem?_eq_some_iff.1 hs).1] at hi
        exact (Option.some.inj hi).symm
      subst hi'
      exact ⟨o1, .inl (o2.resolve_right (fun e => by cases e.1)), .inr hn⟩
    · rw [List.getElem?_set_ne (fun e => hii e.symm)] at hi
      obtain ⟨a1, a2, a3⟩ := h.ob i ds b' hi hb'
      have hne : b' ≠ b := fun e => hii (h.od i id b (e ▸ hb') hb)
      exact ⟨a1, a2.keep rfl (World.putObj_heap_other hne), a3.mono mo (World.putObj_heap_other hne)⟩
  · intro t e hl
    obtain ⟨v, b1, b2⟩ := h.lv t e hl
    refine ⟨v, b1, b2.keep mo (fun g hg hn _ => ?_)⟩
    obtain ⟨cur, T, q, e'⟩ := (b2.facts hg).2.2.1
    have hne : g ≠ b := by rintro rfl; rw [hm] at e'; cases e'
    exact ⟨World.putObj_heap_other hne, rfl, hn⟩
theorem asMpo_inv {cs : List AV} {m : List AV × List AV} (h : asMpo cs = some m) : cs = [.mpo m.1 m.2] := by
  unfold asMpo at h
  split at h <;> cases h
  rfl
/-- A map that is an own variable. -/
theorem Rel.mapAt (h : Rel C E G s a w) {id : Nat} {v : Value} {ks vs : List AV} (hV : V G w (.mp id) v) (hs : s.ob[id]? = some [.mpo ks vs]) : ∃ b es c, v = .map (some b) ∧ G.blk[id]? = some b ∧ w.heap[b]? = some (.map es c) ∧ es.size = ks.length ∧ vs.length = ks.length ∧
    (∀ (j : Nat) (x : AV) (e : MapEntry), ks[j]? = some x → es[j]? = some e → V G w x e.key) ∧ (∀ (j : Nat) (y : AV) (e : MapEntry), vs[j]? = some y → es[j]? = some e → V G w y e.val) ∧
    (∀ (j : Nat) (e : MapEntry), es[j]? = some e → e.born < c) ∧ (∀ (i j : Nat) (e f : MapEntry), es[i]? = some e → es[j]? = some f → e.born = f.born → i = j) := by
  cases hV with
  | @mp _ b hb hk =>
    obtain ⟨es, c, hm⟩ := hk
    obtain ⟨o1, o2, oo⟩ := h.ob id _ b hs hb
    rcases oo with ⟨cur, T, e1, _⟩ | ⟨ks', vs', es', c', e1, e2, e3⟩
    · rw [hm] at e1; cases e1
    · rw [hm] at e2
      cases e2
      simp only [List.cons.injEq, AV.mpo.injEq, and_true] at e1
      obtain ⟨rfl, rfl⟩ := e1
      exact ⟨b, es, c, rfl, hb, hm, e3⟩
theorem newm_ok (h : Rel C E G s a w) {d : Option Nat} (hd : ∀ t, d = some t → t < s.N) : Res C E (apEff s d (.newm s.ob.length)) d a (.ok (.value (.map (some w.heap.size))) (w.alloc (.map #[] 0))) := by
  have hb : Below w.heap.size w (w.alloc (.map #[] 0)) := (Below.refl _ _).alloc (Nat.le_refl _) _
  have hsz : (w.alloc (.map #[] 0)).heap.size = w.heap.size + 1 := Array.size_push _
  have hnew : (w.alloc (.map #[] 0)).heap[w.heap.size]? = some (.map #[] 0) := (Go.MapKept.heap_alloc w _).1
  have h1 := h.grow (m' := G.m) hb (fun _ _ => rfl) (fun b hb' => h.mz b (by omega))
  have h2 := h1.addObj (g := w.heap.size) (cs := [.mpo [] []]) h.be.size (h.mz _ (Nat.le_refl _)) (fun i e => by
    have := h.lt (i := i) (b := w.heap.size) e; omega) (fun u e' x hu hx => by
      intro e5
      have := h.own_lt hu hx e5
      omega) (.inr ⟨[], [], #[], 0, rfl, hnew, rfl, rfl, (fun j x e hj => by simp at hj), (fun j x e hj => by simp at hj), (fun j e hj => by simp at hj), (fun i j e f hi => by simp at hi)⟩)
  refine ⟨_, _, _, .inl rfl, h2.put (d := d) hd (.mp ?_ ⟨_, _, hnew⟩)⟩
  show (G.blk ++ [w.heap.size])[s.ob.length]? = some w.heap.size
  rw [← h.ol]; simp
theorem mputA_ok (h : Rel C E G s a w) {d : Option Nat} {t : TypeId} {k x p : AV} {pv kv xv : Value} (hp : V G w p pv) (hk : V G w k kv) (hx : V G w x xv) {eff : Eff} (he : mputA C.P s t k x p = some eff) :
    ∃ w', (Instr.mapUpdate t pv kv xv).run C.P w = .ok () w' ∧ Rel C E G (apEff s d eff) (a.put d undef) w' := by
  have B := @Option.bind_eq_some_iff
  unfold mputA at he
  split at he
  case h_2 => cases he
  rename_i id
  obtain ⟨cs, hcs, he⟩ := B.1 he
  unfold mputE at he
  obtain ⟨⟨kt, et⟩, ht, he⟩ := B.1 he
  obtain ⟨⟨ks, vs⟩, hm, he⟩ := B.1 he
  obtain ⟨⟨ks', vs'⟩, hr, rfl⟩ := Option.map_eq_some_iff.1 he
  have := asMpo_inv hm
  subst this
  dsimp only at hr ht hcs ⊢
  unfold mput at hr
  split at hr
  case isFalse => cases hr
  rename_i hko
  obtain ⟨r, hf, hr⟩ := Option.map_eq_some_iff.1 hr
  obtain ⟨b, es, c, rfl, hb, hmb, e1, e2, e3, e4, e5, e6⟩ := h.mapAt hp hcs
  have hu : C.P.underlying t = some (.map kt et) := by
    unfold mapT at ht; split at ht <;> cases ht; assumption
  have hlt : b < w.heap.size := (Array.getElem?_eq_some_iff.1 hmb).1
  have hfind := findKey_ok hko hk (es := es.toList) (by simpa using e1) (fun j x e a b => e3 j x e a (by simpa using b)) hf
  have pre : ∀ {w' : World} {m : Sem Unit}, ((match foundAt es.toList 0 r with
        | some (i, _) => do
          let key ← Instr.keyThatStays (((es[i]?).map (·.key)).getD kv) kv
          setObj b (.map (es.modify i fun e => { e with key, val := xv }) c)
        | none => setObj b (.map (es.push { key := kv, val := xv, born := c }) (c + 1)) : Sem Unit)).run C.P w = .ok () w' → (Instr.mapUpdate t (.map (some b)) kv xv).run C.P w = .ok () w' := by
    intro w' m hrun
    unfold Instr.mapUpdate
    simp only [Sem.run_bind, run_underlyingT hu, Result.andThen, Go.MapKept.run_getObj_map hmb, checkKey_ok hko hk false 9998, hfind]
    exact hrun
  have fin : ∀ {ks1 vs1 : List AV} {es1 : Array MapEntry} {c1 : Nat}, MapOb G (w.putObj b (.map es1 c1)) b [.mpo ks1 vs1] → Rel C E G (apEff s d (.st id 0 [.mpo ks1 vs1])) (a.put d undef) (w.putObj b (.map es1 c1)) := by
    intro ks1 vs1 es1 c1 hn
    have := h.setMap (es' := es1) (c' := c1) hcs hb hmb hn
    show Rel C E G (({ s with ob := match s.ob[id]? with | some cc => s.ob.set id (splice 0 [.mpo ks1 vs1] cc) | none => s.ob } : AS).del d) (a.put d undef) _
    rw [hcs]
    exact this.del undef
  cases r with
  | none =>
    cases hr
    refine ⟨w.putObj b (.map (es.push { key := kv, val := xv, born := c }) (c + 1)), pre (m := pure ()) (Go.MapKept.run_setObj_map _ hmb), fin ?_⟩
    have mo := h.mo_map (es' := es.push { key := kv, val := xv, born := c }) (c' := c + 1) hmb
    have hget : ∀ (j : Nat) (e : MapEntry), (es.push { key := kv, val := xv, born := c })[j]? = some e → es[j]? = some e ∨ (j = es.size ∧ e = { key := kv, val := xv, born := c }) := by
      intro j e hj
      rw [Array.getElem?_push] at hj
      split at hj
      · rename_i q; cases hj; exact .inr ⟨q, rfl⟩
      · exact .inl hj
    refine ⟨_, _, _, _, rfl, World.putObj_heap_same hlt, by simp [e1], by simp [e2], fun j y e hj hje => ?_, fun j y e hj hje => ?_, fun j e hje => ?_, fun i j e f hi hj hbn => ?_⟩
    · rcases hget j e hje with q | ⟨rfl, rfl⟩
      · have hjl : j < ks.length := by have := (Array.getElem?_eq_some_iff.1 q).1; omega
        rw [List.getElem?_append_left hjl] at hj
        exact (e3 j y e hj q).mono mo
      · rw [e1, List.getElem?_append_right (Nat.le_refl _), Nat.sub_self] at hj
        cases hj; exact hk.mono mo
    · rcases hget j e hje with q | ⟨rfl, rfl⟩
      · have hjl : j < vs.length := by have := (Array.getElem?_eq_some_iff.1 q).1; omega
        rw [List.getElem?_append_left hjl] at hj
        exact (e4 j y e hj q).mono mo
      · rw [e1, ← e2, List.getElem?_append_right (Nat.le_refl _), Nat.sub_self] at hj
        cases hj; exact hx.mono mo
    · rcases hget j e hje with q | ⟨rfl, rfl⟩
      · have := e5 j e q; omega
      · exact Nat.lt_succ_self c
    · rcases hget i e hi with q | ⟨q1, rfl⟩ <;> rcases hget j f hj with q' | ⟨q2, rfl⟩
      · exact e6 i j e f q q' hbn
      · have := e5 i e q; dsimp only at hbn; omega
      · have := e5 j f q'; dsimp only at hbn; omega
      · omega
  | some i =>
    cases hr
    have hki := kFind_lt hf
    have hil : i < es.size := by have := (List.getElem?_eq_some_iff.1 hki).1; omega
    have hei : es[i]? = some es[i] := Array.getElem?_eq_getElem hil
    have hkey : es[i].key = kv := (e3 i k es[i] hki hei).key hko hk
    refine ⟨w.putObj b (.map (es.modify i fun e => { e with key := kv, val := xv }) c), pre (m := pure ()) ?_, fin ?_⟩
    · simp only [foundAt, Array.getElem?_toList, hei, Option.map_some, Nat.zero_add, Option.getD_some, hkey, Sem.run_bind, run_keyStays hko hk, Result.andThen]
      exact Go.MapKept.run_setObj_map _ hmb
    · have mo := h.mo_map (es' := es.modify i fun e => { e with key := kv, val := xv }) (c' := c) hmb
      have hget : ∀ (j : Nat) (e : MapEntry), (es.modify i fun e => { e with key := kv, val := xv })[j]? = some e → ∃ e0, es[j]? = some e0 ∧ e.born = e0.born ∧ e.key = e0.key ∧ (j ≠ i → e.val = e0.val) ∧ (j = i → e.val = xv) := by
        intro j e hj
        rw [Array.getElem?_modify] at hj
        split at hj
        · rename_i q
          subst q
          rw [hei] at hj
          cases hj
          exact ⟨_, hei, rfl, hkey.symm, fun h => absurd rfl h, fun _ => rfl⟩
        · rename_i q
          exact ⟨e, hj, rfl, rfl, fun _ => rfl, fun h => absurd h.symm q⟩
      refine ⟨_, _, _, _, rfl, World.putObj_heap_same hlt, by simp [e1], by simp [e2], fun j y e hj hje => ?_, fun j y e hj hje => ?_, fun j e hje => ?_, fun i' j e f hi hj hbn => ?_⟩
      · obtain ⟨e0, q1, q2, q3, q4⟩ := hget j e hje
        rw [q3]; exact (e3 j y e0 hj q1).mono mo
      · obtain ⟨e0, q1, q2, q3, q4, q5⟩ := hget j e hje
        by_cases hji : j = i
        · subst hji
          have hjv : j < vs.length := by omega
          rw [List.getElem?_set_self hjv] at hj
          cases hj
          rw [q5 rfl]; exact hx.mono mo
        · rw [List.getElem?_set_ne (fun e => hji e.symm)] at hj
          rw [q4 hji]; exact (e4 j y e0 hj q1).mono mo
      · obtain ⟨e0, q1, q2, _⟩ := hget j e hje
        rw [q2]; exact e5 j e0 q1
      · obtain ⟨e0, q1, q2, _⟩ := hget i' e hi
        obtain ⟨f0, r1, r2, _⟩ := hget j f hj
        exact e6 i' j e0 f0 q1 r1 (by omega)
theorem mgetA_ok (h : Rel C E G s a w) {d : Option Nat} (hd : ∀ t, d = some t → t < s.N) {t : TypeId} {k p : AV} {pv kv : Value} {ok : Bool} (hp : V G w p pv) (hk : V G w k kv) {eff : Eff} (he : mgetA C.P s t k ok p = some eff) :
    ∃ v, (Instr.lookup t pv kv ok).run C.P w = .ok v w ∧ Rel C E G (apEff s d eff) (a.put d v) w := by
  have B := @Option.bind_eq_some_iff
  have wrapV : ∀ {x : AV} {v : Value} {q : Bool}, V G w x v → V G w (okTup ok (x, q)) (if ok then .tuple #[v, .bool q] else v) := by
    intro x v q hx
    cases ok with
    | false => exact hx
    | true =>
      refine .tup rfl (fun i c hc u hu => ?_)
      match i, hc, hu with
      | 0, hc, hu => cases hc; cases hu; exact hx
      | 1, hc, hu => cases hc; cases hu; exact .bool _
  unfold mgetA at he
  split at he
  · rename_i id
    obtain ⟨cs, hcs, he⟩ := B.1 he
    unfold mgetE at he
    obtain ⟨⟨kt, et⟩, ht, he⟩ := B.1 he
    obtain ⟨⟨ks, vs⟩, hm, he⟩ := B.1 he
    obtain ⟨⟨x, q⟩, hr, rfl⟩ := Option.map_eq_some_iff.1 he
    have := asMpo_inv hm
    subst this
    dsimp only at hr ht hcs ⊢
    unfold mget at hr
    split at hr
    case isFalse => cases hr
    rename_i hko
    obtain ⟨r, hf, hr⟩ := B.1 hr
    obtain ⟨b, es, c, rfl, hb, hmb, e1, e2, e3, e4, e5, e6⟩ := h.mapAt hp hcs
    have hu : C.P.underlying t = some (.map kt et) := by
      unfold mapT at ht; split at ht <;> cases ht; assumption
    have hfind := findKey_ok hko hk (es := es.toList) (by simpa using e1) (fun j x e a b => e3 j x e a (by simpa using b)) hf
    cases r with
    | none =>
      obtain ⟨z, hz, hq⟩ := Option.map_eq_some_iff.1 hr
      cases hq
      obtain ⟨zv, hz1, hz2⟩ := Option.bind_eq_some_iff.1 hz
      refine ⟨if ok then .tuple #[zv, .bool false] else zv, ?_, h.put hd (wrapV (cv_ok h.t1 hz2))⟩
      unfold Instr.lookup
      simp only [Sem.run_bind, run_underlyingT hu, Result.andThen, Go.MapKept.run_getObj_map hmb, Sem.run_pure, checkKey_ok hko hk _ 9998, hfind, foundAt, run_zeroT hz1]
    | some i =>
      obtain ⟨y, hy, hq⟩ := Option.map_eq_some_iff.1 hr
      cases hq
      have hil : i < es.size := by have := (List.getElem?_eq_some_iff.1 hy).1; omega
      have hei : es[i]? = some es[i] := Array.getElem?_eq_getElem hil
      refine ⟨if ok then .tuple #[es[i].val, .bool true] else es[i].val, ?_, h.put hd (wrapV (e4 i _ _ hy hei))⟩
      unfold Instr.lookup
      simp only [Sem.run_bind, run_underlyingT hu, Result.andThen, Go.MapKept.run_getObj_map hmb, Sem.run_pure, checkKey_ok hko hk _ 9998, hfind, foundAt, Array.getElem?_toList, hei, Option.map_some]
  · unfold mnilE at he
    obtain ⟨⟨kt, et⟩, ht, he⟩ := B.1 he
    dsimp only at he ht
    split at he
    case isFalse => cases he
    rename_i hko
    obtain ⟨z, hz, rfl⟩ := Option.map_eq_some_iff.1 he
    obtain ⟨zv, hz1, hz2⟩ := Option.bind_eq_some_iff.1 hz
    have hu : C.P.underlying t = some (.map kt et) := by
      unfold mapT at ht; split at ht <;> cases ht; assumption
    cases hp
    have hfind := findKey_ok (ks := []) (es := []) (r := none) hko hk rfl (fun j x e a => by simp at a) rfl
    refine ⟨if ok then .tuple #[zv, .bool false] else zv, ?_, h.put hd (wrapV (cv_ok h.t1 hz2))⟩
    unfold Instr.lookup
    simp only [Sem.run_bind, run_underlyingT hu, Result.andThen, Sem.run_pure, checkKey_ok hko hk _ 9998, hfind, foundAt, run_zeroT hz1]
  · cases he
theorem mlenE_ok (h : Rel C E G s a w) {d : Option Nat} (hd : ∀ t, d = some t → t < s.N) {t : TypeId} {id : Nat} {cs : List AV} {pv : Value} (hp : V G w (.mp id) pv) (hcs : s.ob[id]? = some cs) {eff : Eff} (he : mlenE C.P t id cs = some eff) (ty : TypeId) :
    ∃ v, (Builtin.len_ #[t] ty #[pv]).run C.P w = .ok v w ∧ Rel C E G (apEff s d eff) (a.put d v) w := by
  have B := @Option.bind_eq_some_iff
  unfold mlenE at he
  obtain ⟨⟨kt, et⟩, ht, he⟩ := B.1 he
  obtain ⟨⟨ks, vs⟩, hm, rfl⟩ := Option.map_eq_some_iff.1 he
  have := asMpo_inv hm
  subst this
  dsimp only at ht hcs ⊢
  obtain ⟨b, es, c, rfl, hb, hmb, e1, e2, e3, e4, e5, e6⟩ := h.mapAt hp hcs
  have hu : C.P.underlying t = some (.map kt et) := by
    unfold mapT at ht; split at ht <;> cases ht; assumption
  refine ⟨.int .i64 es.size, ?_, ?_⟩
  · unfold Builtin.len_
    simp [Sem.run_bind, run_underlyingT hu, Result.andThen, Go.MapKept.run_getObj_map hmb, goInt]
  · rw [e1]
    exact h.put hd (.int _ _)
end
end Go.Proofs.AL
namespace Go.Proofs.AL
open Go Go.RowKit
set_option linter.unusedSimpArgs false

theorem flat_get {α : Type} {sz : Nat} : ∀ (l : List (List α)) (j i : Nat) (el : List α), (∀ e ∈ l, e.length = sz) → l[j]? = some el → i < sz → l.flatten[j * sz + i]? = el[i]?
  | [], j, i, el, _, hj, _ => by simp at hj
  | x :: l, 0, i, el, hl, hj, hi => by
    simp at hj; subst hj
    have hx := hl x (List.mem_cons_self)
    simp only [List.flatten_cons, Nat.zero_mul, Nat.zero_add]
    rw [List.getElem?_append_left (by omega)]
  | x :: l, j + 1, i, el, hl, hj, hi => by
    have hx := hl x (List.mem_cons_self)
    simp only [List.flatten_cons]
    rw [List.getElem?_append_right (by rw [hx, Nat.add_mul]; omega), hx, show (j + 1) * sz + i - sz = j * sz + i by rw [Nat.add_mul]; omega]
    exact flat_get l j i el (fun e he => hl e (List.mem_cons_of_mem _ he)) (by simpa using hj) hi
theorem flat_length {α : Type} {sz : Nat} : ∀ (l : List (List α)), (∀ e ∈ l, e.length = sz) → l.flatten.length = l.length * sz
  | [], _ => by simp
  | x :: l, h => by
    rw [List.flatten_cons, List.length_append, h x (List.mem_cons_self), flat_length l (fun e he => h e (List.mem_cons_of_mem _ he)), List.length_cons, Nat.add_mul]; omega
theorem take_splice {α : Type} {off : Nat} {ys cs : List α} (h : off ≤ cs.length) : (splice off ys cs).take (off + ys.length) = cs.take off ++ ys := by
  unfold splice
  exact List.take_left' (by simp; omega)
theorem fill_all {size : Nat} : ∀ (ps : List (Nat × Value)) (k : Nat) (arr : Array Value), (∀ (j : Nat) (p : Nat × Value), ps[j]? = some p → p.1 = k + j ∧ p.2.cells.size = size) → arr.size = (k + ps.length) * size →
    ∃ arr', Instr.fill (fun i => some (i * size, size)) arr ps = some arr' ∧ arr'.toList = arr.toList.take (k * size) ++ (ps.map fun p => p.2.cells.toList).flatten
  | [], k, arr, _, hs => ⟨arr, rfl, by simp at hs ⊢; rw [List.take_of_length_le (by simp; omega)]⟩
  | (i, v) :: ps, k, arr, hp, hs => by
    obtain ⟨h1, h2⟩ := hp 0 (i, v) rfl
    simp at h1 h2
    subst h1
    simp only [List.length_cons] at hs
    have hsz : arr.size = i * size + size + ps.length * size := by rw [hs, show i + (ps.length + 1) = i + 1 + ps.length by omega, Nat.add_mul, Nat.add_mul]; omega
    have hf : Array.foldl (fun cs (p : Value × Nat) => cs.setIfInBounds (i * size + p.2) p.1) arr v.cells.zipIdx = (splice (i * size) v.cells.toList arr.toList).toArray := by
      rw [← Array.foldl_toList, Array.toList_zipIdx]
      exact foldl_splice v.cells.toList 0 arr (by simp; omega)
    have hl : (splice (i * size) v.cells.toList arr.toList).length = arr.size := by rw [splice_length (by simp; omega)]; simp
    obtain ⟨arr', g1, g2⟩ := fill_all ps (i + 1) (splice (i * size) v.cells.toList arr.toList).toArray (fun j p hj => by
      have := hp (j + 1) p (by simpa using hj)
      exact ⟨by omega, this.2⟩) (by rw [List.size_toArray, hl, hsz, show i + 1 + ps.length = i + 1 + ps.length from rfl, Nat.add_mul, Nat.add_mul]; omega)
    refine ⟨arr', ?_, ?_⟩
    · unfold Instr.fill
      dsimp only
      rw [if_neg (by simp [h2]; omega), ← hf] at *
      exact g1
    · rw [g2]
      simp only [List.map_cons, List.flatten_cons]
      rw [← List.append_assoc]
      congr 1
      have e1 : (i + 1) * size = i * size + v.cells.toList.length := by rw [Nat.add_mul]; simp [h2]
      rw [e1]
      exact take_splice (by simp; omega)

section
variable {C : Cx} {E : Env} {G : Gh} {s : AS} {a : Act} {w : World} {P : Program}
/-- A new row of the call's own. -/
theorem Rel.newRow (h : Rel C E G s a w) {w' : World} {e : TypeId} {sz c : Nat} {xs : List (List AV)} {us : List (List Value)} {cur : Array Value} (hsz : szOf C.P e = some sz) (h0 : 0 < sz) (hx : ∀ el ∈ xs, el.length = sz) (hl : us.length = xs.length)
    (hV : ∀ (j : Nat) (el : List AV) (vs : List Value), xs[j]? = some el → us[j]? = some vs → VL G w el vs) (hc : xs.length ≤ c) (hm : c ≤ maxLen) (hcur : cur.size = c * sz) (htk : cur.toList.take (xs.length * sz) = us.flatten)
    (hb : Below w.heap.size w w') (hg : w'.heap[w.heap.size]? = some (.cells cur e (0, 0))) (hs : w'.heap.size = w.heap.size + 1) :
    ∃ G', Rel C E G' (s.tok e) a w' ∧ V G' w' (.sl s.next xs) (.slice (some ⟨w.heap.size, 0, none⟩) xs.length c) ∧ Mo G w G' w' := by
  have hgrow := h.grow (m' := fun b => if b = w.heap.size then xs.length * sz else G.m b) hb (fun b hb' => by show (if b = w.heap.size then _ else _) = _; rw [if_neg (by omega)])
    (fun b hb' => by show (if b = w.heap.size then _ else _) = _; rw [if_neg (by omega)]; exact h.mz b (by omega))
  have mo := h.mo_of (m' := fun b => if b = w.heap.size then xs.length * sz else G.m b) hb (fun b hb' => by show (if b = w.heap.size then _ else _) = _; rw [if_neg (by omega)])
  have hblk : ∀ i : Nat, G.blk[i]? ≠ some w.heap.size := fun i e => by have := h.lt e; omega
  have hold : ∀ t e' u g, s.live t = some e' → G.tk t = some u → (Value.slice (some ⟨w.heap.size, 0, none⟩) xs.length c).ownBlock = some g → u.ownBlock ≠ some g := by
    intro t e' u g0 ht hu hg0 e5
    have hg0 : w.heap.size = g0 := Option.some.inj hg0
    subst hg0
    have := h.own_lt ht hu e5
    omega
  have hown : OwnT C E { G with m := fun b => if b = w.heap.size then xs.length * sz else G.m b } w' e (.slice (some ⟨w.heap.size, 0, none⟩) xs.length c) :=
    .inr ⟨w.heap.size, xs.length, c, sz, cur, rfl, h.be.size, hg, hc, hm, hsz, h0, hcur, if_pos rfl, hblk⟩
  have hfin := hgrow.addTok (e := .ty e) (v := .slice (some ⟨w.heap.size, 0, none⟩) xs.length c) hown hold
  have mo2 : Mo G w { G with m := fun b => if b = w.heap.size then xs.length * sz else G.m b, tk := fun t => if t = s.next then some (.slice (some ⟨w.heap.size, 0, none⟩) xs.length c) else G.tk t } w' :=
    ⟨mo.cell, mo.blk, fun t v e => by
      show (if t = s.next then _ else G.tk t) = some v
      rw [if_neg (fun e' => by rw [e', h.fr _ (Nat.le_refl _)] at e; cases e)]; exact e, mo.kc, mo.km⟩
  refine ⟨_, hfin, ?_, mo2⟩
  have hn2 : s.next ≠ 2 := by have := h.ne; omega
  have htok : (if s.next = s.next then some (Value.slice (some ⟨w.heap.size, 0, none⟩) xs.length c) else G.tk s.next) = some (.slice (some ⟨w.heap.size, 0, none⟩) xs.length c) := if_pos rfl
  rcases Nat.eq_zero_or_pos xs.length with hz | hpos
  · have : xs = [] := List.eq_nil_of_length_eq_zero hz
    subst this
    exact .sl0 (.inr (.inr ⟨hn2, htok⟩))
  · have hus : ∀ vs ∈ us, vs.length = sz := by
      intro vs hvs
      obtain ⟨j, hj, rfl⟩ := List.mem_iff_getElem.1 hvs
      have hj' : j < xs.length := by omega
      have h1 := hV j _ _ (List.getElem?_eq_getElem hj') (List.getElem?_eq_getElem hj)
      rw [← h1.1]
      exact hx _ (List.getElem_mem hj')
    have key : ∀ (j i : Nat) (el : List AV) (x : AV), xs[j]? = some el → el[i]? = some x → ∃ v, cur[j * sz + i]? = some v ∧ V G w x v ∧ v.oneCell' = true ∧ j * sz + i < xs.length * sz := by
      intro j i el x hj hi
      have hjl := (List.getElem?_eq_some_iff.1 hj).1
      have hil : i < sz := by
        have := (List.getElem?_eq_some_iff.1 hi).1
        rw [hx el (List.mem_of_getElem? hj)] at this; exact this
      have hju : j < us.length := by omega
      have h1 := hV j el us[j] hj (List.getElem?_eq_getElem hju)
      have hiu : i < (us[j]).length := by rw [hus _ (List.getElem_mem hju)]; exact hil
      have h2 := flat_get us j i us[j] hus (List.getElem?_eq_getElem hju) hil
      have hlt : j * sz + i < xs.length * sz := by
        have : (j + 1) * sz ≤ xs.length * sz := Nat.mul_le_mul_right _ hjl
        rw [Nat.add_mul] at this; omega
      refine ⟨us[j][i], ?_, (h1.2 i x _ hi (List.getElem?_eq_getElem hiu)).1, (h1.2 i x _ hi (List.getElem?_eq_getElem hiu)).2, hlt⟩
      rw [← htk, List.getElem?_take, if_pos hlt, List.getElem?_eq_getElem hiu] at h2
      simpa using h2
    refine .sl (fun j i => (cur[j * sz + i]?).getD undef) hpos rfl hc hm h0 hx (.inr (.inr ⟨hn2, htok⟩)) (fun j i el x hj hi => ?_) (fun j i el x hj hi => ?_)
    · obtain ⟨v, k1, k2, k3, k4⟩ := key j i el x hj hi
      refine ⟨?_, ?_, by rw [k1]; exact k3⟩
      · show 0 + (j * sz + i) < (if w.heap.size = w.heap.size then xs.length * sz else G.m w.heap.size)
        rw [if_pos rfl]; omega
      · rw [cell_of_heap hg, Nat.zero_add, k1]; rfl
    · obtain ⟨v, k1, k2, k3, k4⟩ := key j i el x hj hi
      rw [k1]
      exact k2.mono mo2
/-- A new row as it is written out: no room behind it. -/
theorem Rel.newLit (h : Rel C E G s a w) {w' : World} {e : TypeId} {sz c : Nat} {xs : List (List AV)} {us : List (List Value)} {cur : Array Value} (hsz : szOf C.P e = some sz) (h0 : 0 < sz) (hx : ∀ el ∈ xs, el.length = sz) (hl : us.length = xs.length)
    (hV : ∀ (j : Nat) (el : List AV) (vs : List Value), xs[j]? = some el → us[j]? = some vs → VL G w el vs) (hc : xs.length = c) (hm : c ≤ maxLen) (hcur : cur.size = c * sz) (htk : cur.toList.take (xs.length * sz) = us.flatten)
    (hb : Below w.heap.size w w') (hg : w'.heap[w.heap.size]? = some (.cells cur e (0, 0))) (hs : w'.heap.size = w.heap.size + 1) :
    ∃ G', Rel C E G' s a w' ∧ V G' w' (.sl 2 xs) (.slice (some ⟨w.heap.size, 0, none⟩) xs.length c) ∧ Mo G w G' w' := by
  have hgrow := h.grow (m' := fun b => if b = w.heap.size then xs.length * sz else G.m b) hb (fun b hb' => by show (if b = w.heap.size then _ else _) = _; rw [if_neg (by omega)])
    (fun b hb' => by show (if b = w.heap.size then _ else _) = _; rw [if_neg (by omega)]; exact h.mz b (by omega))
  have mo := h.mo_of (m' := fun b => if b = w.heap.size then xs.length * sz else G.m b) hb (fun b hb' => by show (if b = w.heap.size then _ else _) = _; rw [if_neg (by omega)])
  refine ⟨_, hgrow, ?_, mo⟩
  rcases Nat.eq_zero_or_pos xs.length with hz | hpos
  · have : xs = [] := List.eq_nil_of_length_eq_zero hz
    subst this
    exact .sl0 (.inr (.inl ⟨rfl, hc.symm⟩))
  · have hus : ∀ vs ∈ us, vs.length = sz := by
      intro vs hvs
      obtain ⟨j, hj, rfl⟩ := List.mem_iff_getElem.1 hvs
      have hj' : j < xs.length := by omega
      have h1 := hV j _ _ (List.getElem?_eq_getElem hj') (List.getElem?_eq_getElem hj)
      rw [← h1.1]
      exact hx _ (List.getElem_mem hj')
    have key : ∀ (j i : Nat) (el : List AV) (x : AV), xs[j]? = some el → el[i]? = some x → ∃ v, cur[j * sz + i]? = some v ∧ V G w x v ∧ v.oneCell' = true ∧ j * sz + i < xs.length * sz := by
      intro j i el x hj hi
      have hjl := (List.getElem?_eq_some_iff.1 hj).1
      have hil : i < sz := by
        have := (List.getElem?_eq_some_iff.1 hi).1
        rw [hx el (List.mem_of_getElem? hj)] at this; exact this
      have hju : j < us.length := by omega
      have h1 := hV j el us[j] hj (List.getElem?_eq_getElem hju)
      have hiu : i < (us[j]).length := by rw [hus _ (List.getElem_mem hju)]; exact hil
      have h2 := flat_get us j i us[j] hus (List.getElem?_eq_getElem hju) hil
      have hlt : j * sz + i < xs.length * sz := by
        have : (j + 1) * sz ≤ xs.length * sz := Nat.mul_le_mul_right _ hjl
        rw [Nat.add_mul] at this; omega
      refine ⟨us[j][i], ?_, (h1.2 i x _ hi (List.getElem?_eq_getElem hiu)).1, (h1.2 i x _ hi (List.getElem?_eq_getElem hiu)).2, hlt⟩
      rw [← htk, List.getElem?_take, if_pos hlt, List.getElem?_eq_getElem hiu] at h2
      simpa using h2
    refine .sl (fun j i => (cur[j * sz + i]?).getD undef) hpos rfl (Nat.le_of_eq hc) hm h0 hx (.inr (.inl ⟨rfl, hc.symm⟩)) (fun j i el x hj hi => ?_) (fun j i el x hj hi => ?_)
    · obtain ⟨v, k1, k2, k3, k4⟩ := key j i el x hj hi
      refine ⟨?_, ?_, by rw [k1]; exact k3⟩
      · show 0 + (j * sz + i) < (if w.heap.size = w.heap.size then xs.length * sz else G.m w.heap.size)
        rw [if_pos rfl]; omega
      · rw [cell_of_heap hg, Nat.zero_add, k1]; rfl
    · obtain ⟨v, k1, k2, k3, k4⟩ := key j i el x hj hi
      rw [k1]
      exact k2.mono mo
end
end Go.Proofs.AL
namespace Go.Proofs.AL
open Go Go.RowKit

section
variable {C : Cx} {E : Env} {G : Gh} {s : AS} {a : Act} {w : World} {P : Program}
/-- What rows' cells are, where they lie behind one another. -/
theorem rows_at {G : Gh} {w : World} {sz : Nat} {xs : List (List AV)} {us : List (List Value)} {cur : Array Value} (hx : ∀ el ∈ xs, el.length = sz) (hl : us.length = xs.length)
    (hV : ∀ (j : Nat) (el : List AV) (vs : List Value), xs[j]? = some el → us[j]? = some vs → VL G w el vs) (htk : cur.toList.take (xs.length * sz) = us.flatten) :
    ∀ (j i : Nat) (el : List AV) (x : AV) (u : Value), xs[j]? = some el → el[i]? = some x → cur[j * sz + i]? = some u → V G w x u ∧ u.oneCell' = true := by
  have hus : ∀ vs ∈ us, vs.length = sz := by
    intro vs hvs
    obtain ⟨j, hj, rfl⟩ := List.mem_iff_getElem.1 hvs
    have hj' : j < xs.length := by omega
    have h1 := hV j _ _ (List.getElem?_eq_getElem hj') (List.getElem?_eq_getElem hj)
    rw [← h1.1]
    exact hx _ (List.getElem_mem hj')
  intro j i el x u hj hi hu
  have hjl := (List.getElem?_eq_some_iff.1 hj).1
  have hil : i < sz := by
    have := (List.getElem?_eq_some_iff.1 hi).1
    rw [hx el (List.mem_of_getElem? hj)] at this; exact this
  have hju : j < us.length := by omega
  have h1 := hV j el us[j] hj (List.getElem?_eq_getElem hju)
  have h2 := flat_get us j i us[j] hus (List.getElem?_eq_getElem hju) hil
  have hlt : j * sz + i < xs.length * sz := by
    have : (j + 1) * sz ≤ xs.length * sz := Nat.mul_le_mul_right _ hjl
    rw [Nat.add_mul] at this; omega
  rw [← htk, List.getElem?_take, if_pos hlt, Array.getElem?_toList, hu] at h2
  exact h1.2 i x u hi h2.symm
/-- A new row that will be written to. -/
theorem Rel.newRowK (h : Rel C E G s a w) {w' : World} {e : TypeId} {sz c : Nat} {xs : List (List AV)} {cur : Array Value} (hsz : szOf C.P e = some sz) (h0 : 0 < sz) (hx : ∀ el ∈ xs, el.length = sz)
    (hV : ∀ (j i : Nat) (el : List AV) (x : AV) (u : Value), xs[j]? = some el → el[i]? = some x → cur[j * sz + i]? = some u → V G w x u ∧ u.oneCell' = true) (hc : xs.length ≤ c) (hm : c ≤ maxLen) (hcur : cur.size = c * sz)
    (hb : Below w.heap.size w w') (hg : w'.heap[w.heap.size]? = some (.cells cur e (0, 0))) (hs : w'.heap.size = w.heap.size + 1) :
    ∃ G', Rel C E G' (s.tokR e xs) a w' ∧ G'.tk s.next = some (.slice (some ⟨w.heap.size, 0, none⟩) xs.length c) ∧ Mo G w G' w' := by
  have hgrow := h.grow (m' := G.m) hb (fun _ _ => rfl) (fun b hb' => h.mz b (by omega))
  have mo := h.mo_of (m' := G.m) hb (fun _ _ => rfl)
  have hblk : ∀ i : Nat, G.blk[i]? ≠ some w.heap.size := fun i e => by have := h.lt e; omega
  have hadd := hgrow.addTok (e := .row e xs) (v := .slice (some ⟨w.heap.size, 0, none⟩) xs.length c)
    (.inr ⟨w.heap.size, xs.length, c, sz, cur, rfl, h.be.size, hg, hc, hm, hsz, h0, hcur, h.mz _ (Nat.le_refl _), hblk, rfl, hx, fun j i el x u a b d => ⟨(hV j i el x u a b d).1.mono mo, (hV j i el x u a b d).2⟩⟩)
    (fun t e' u g0 ht hu hg0 e5 => by
      have hg0 : w.heap.size = g0 := Option.some.inj hg0
      subst hg0
      have := h.own_lt ht hu e5
      omega)
  refine ⟨_, hadd, if_pos rfl, mo.cell, mo.blk, fun t v e => ?_, mo.kc, mo.km⟩
  show (if t = s.next then _ else G.tk t) = some v
  rw [if_neg (fun e' => by rw [e', h.fr _ (Nat.le_refl _)] at e; cases e)]; exact e
/-- Cells that nobody knows of are written. -/
theorem Rel.setFree (h : Rel C E G s a w) {g off : Nat} {T : TypeId} {q : Nat × Nat} {cur : Array Value} {us : List Value} (hg : w.heap[g]? = some (.cells cur T q)) (hE : E.w0.heap.size ≤ g) (hm : G.m g = 0) (hn : ∀ i : Nat, G.blk[i]? ≠ some g)
    (hl : ∀ (u : Nat) (k : Tk) (v : Value), s.live u = some k → G.tk u = some v → v.ownBlock ≠ some g) (hfit : off + us.length ≤ cur.size) : Rel C E G s a (w.setCells g off us) ∧ Mo G w G (w.setCells g off us) := by
  have mo : Mo G w G (w.setCells g off us) := ⟨fun b' o v q1 q2 => ⟨q1, by
    have hne : b' ≠ g := by rintro rfl; omega
    rw [World.cell?_of_block (heap_setCells_ne hne us _ w)]; exact q2⟩, fun _ _ e => e, fun _ _ e => e, fun _ h => kq_setCells hg hfit h, fun _ h => km_setCells hg h⟩
  refine ⟨{ h with tm := ?_, be := ?_, mz := ?_, ob := ?_, lv := ?_, df := ⟨fun d hd => let ⟨D, e, k⟩ := h.df.1 d hd; ⟨D, e, k.setCells hg⟩, h.df.2⟩, mo := h.mo.trans mo, lp := (fun l o hl => (h.lp l o hl).setCells hg), ls := (fun l r t x q1 q2 => let ⟨v, e1, e2⟩ := h.ls l r t x q1 q2; ⟨v, e1, e2.mono mo⟩), mks := fun D hD => (h.mks D hD).setCells hg }, mo⟩
  · intro u x hx
    obtain ⟨v, q1, q2⟩ := h.tm u x hx
    exact ⟨v, q1, q2.mono mo⟩
  · exact below_setCells hE _ _ _ h.be
  · intro k hk
    rw [size_setCells] at hk
    exact h.mz k hk
  · intro i ds b' hi hb'
    obtain ⟨a1, a2, a3⟩ := h.ob i ds b' hi hb'
    exact ⟨a1, a2.keep rfl (heap_setCells_ne (by rintro rfl; exact hn i hb') us _ w), a3.mono mo (heap_setCells_ne (by rintro rfl; exact hn i hb') us _ w)⟩
  · intro u k hu
    obtain ⟨v, b1, b2⟩ := h.lv u k hu
    refine ⟨v, b1, b2.keep mo (fun g' hg' hn' _ => ⟨heap_setCells_ne ?_ us _ w, rfl, hn'⟩)⟩
    rintro rfl
    exact hl u k v hu b1 hg'
/-- A row that is written to gets more elements, where it lies. -/
theorem Rel.growRow (h : Rel C E G s a w) {t : Nat} {e : TypeId} {xs ys : List (List AV)} {us : List (List Value)} {g n c size : Nat} {cur : Array Value} (ht : s.live t = some (.row e xs)) (hv : G.tk t = some (.slice (some ⟨g, 0, none⟩) n c))
    (h3 : E.w0.heap.size ≤ g) (h4 : w.heap[g]? = some (.cells cur e (0, 0))) (h6 : c ≤ maxLen) (h7 : (C.P.info? e).map (·.size) = some size) (h8 : 0 < size) (h9 : cur.size = c * size) (h10 : G.m g = 0) (h11 : ∀ i : Nat, G.blk[i]? ≠ some g) (h12 : n = xs.length) (h13 : ∀ el ∈ xs, el.length = size)
    (h14 : ∀ (j i : Nat) (el : List AV) (x : AV) (u : Value), xs[j]? = some el → el[i]? = some x → cur[j * size + i]? = some u → V G w x u ∧ u.oneCell' = true)
    (hl : us.length = ys.length) (hys : ∀ el ∈ ys, el.length = size) (hV : ∀ (j : Nat) (el : List AV) (vs : List Value), ys[j]? = some el → us[j]? = some vs → VL G w el vs) (hc : n + ys.length ≤ c) :
    ∃ G', Rel C E G' ((s.drop t).tokR e (xs ++ ys)) a (w.setCells g (n * size) us.flatten) ∧ G'.tk s.next = some (.slice (some ⟨g, 0, none⟩) (n + ys.length) c) ∧ Mo G w G' (w.setCells g (n * size) us.flatten) := by
  have hus : ∀ vs ∈ us, vs.length = size := by
    intro vs hvs
    obtain ⟨j, hj, rfl⟩ := List.mem_iff_getElem.1 hvs
    have hj' : j < ys.length := by omega
    have h1 := hV j _ _ (List.getElem?_eq_getElem hj') (List.getElem?_eq_getElem hj)
    rw [← h1.1]
    exact hys _ (List.getElem_mem hj')
  have hfl : us.flatten.length = ys.length * size := by rw [flat_length us hus, hl]
  have hle : (n + ys.length) * size ≤ c * size := Nat.mul_le_mul_right _ hc
  rw [Nat.add_mul] at hle
  have hfit : n * size + us.flatten.length ≤ cur.size := by rw [hfl, h9]; exact hle
  have hfree : ∀ (u : Nat) (k : Tk) (v : Value), (s.drop t).live u = some k → G.tk u = some v → v.ownBlock ≠ some g := by
    intro u k v hu hvu hg
    have hu : (if u = t then none else s.live u) = some k := hu
    by_cases q : u = t
    · rw [if_pos q] at hu; cases hu
    · rw [if_neg q] at hu
      exact q (h.ld u t k _ v _ g hu ht hvu hv hg rfl)
  obtain ⟨hr, mo⟩ := (h.dropTok t).setFree (us := us.flatten) (off := n * size) h4 h3 h10 h11 hfree hfit
  have hheap := heap_setCells_at us.flatten (n * size) w cur h4 hfit
  have hadd := hr.addTok (e := .row e (xs ++ ys)) (v := .slice (some ⟨g, 0, none⟩) (n + ys.length) c) (.inr ⟨g, n + ys.length, c, size, _, rfl, h3, hheap, hc, h6, h7, h8, by
      rw [List.size_toArray, splice_length (by simpa using hfit)]; simpa using h9, h10, h11, by simp [h12], by
      intro el hel
      rcases List.mem_append.1 hel with q | q
      · exact h13 el q
      · exact hys el q, by
      intro j i el x u q1 q2 q3
      rw [List.getElem?_toArray] at q3
      rcases Nat.lt_or_ge j xs.length with p | p
      · rw [List.getElem?_append_left p] at q1
        have hil : i < size := by have := (List.getElem?_eq_some_iff.1 q2).1; rw [h13 el (List.mem_of_getElem? q1)] at this; exact this
        have : (j + 1) * size ≤ n * size := Nat.mul_le_mul_right _ (by omega)
        rw [Nat.add_mul] at this
        rw [splice_get_lt (by simpa using hfit) (by omega)] at q3
        have := h14 j i el x u q1 q2 (by simpa using q3)
        exact ⟨this.1.mono mo, this.2⟩
      · rw [List.getElem?_append_right p] at q1
        have hjy := (List.getElem?_eq_some_iff.1 q1).1
        have hil : i < size := by have := (List.getElem?_eq_some_iff.1 q2).1; rw [hys el (List.mem_of_getElem? q1)] at this; exact this
        have hju : j - xs.length < us.length := by omega
        have hf := flat_get us (j - xs.length) i us[j - xs.length] hus (List.getElem?_eq_getElem hju) hil
        have hm : ((j - xs.length) + 1) * size ≤ ys.length * size := Nat.mul_le_mul_right _ hjy
        rw [Nat.add_mul] at hm
        have hpos : j * size = n * size + (j - xs.length) * size := by rw [← Nat.add_mul]; congr 1; omega
        rw [hpos, Nat.add_assoc, splice_get_mid (by simpa using hfit) (by rw [hfl]; omega), hf] at q3
        have hvl := hV _ _ _ q1 (List.getElem?_eq_getElem hju)
        have := hvl.2 i x u q2 q3
        exact ⟨this.1.mono mo, this.2⟩⟩) (fun u k v' g1 hu hvu hg1 hown => by
      have hg1 : g = g1 := Option.some.inj hg1
      subst hg1
      exact hfree u k v' hu hvu hown)
  refine ⟨_, hadd, if_pos rfl, mo.cell, mo.blk, fun t' v e' => ?_, mo.kc, mo.km⟩
  show (if t' = s.next then _ else G.tk t') = some v
  rw [if_neg (fun e2 => by rw [e2, h.fr _ (Nat.le_refl _)] at e'; cases e')]; exact e'
end
end Go.Proofs.AL
namespace Go.Proofs.AL
open Go Go.RowKit
set_option linter.unusedSimpArgs false
set_option linter.unusedVariables false

section
variable {C : Cx} {E : Env} {G : Gh} {s : AS} {a : Act} {w : World} {P : Program}
theorem V.rows {k : Nat} {xs : List (List AV)} {v : Value} (h : V G w (.sl k xs) v) {sz : Nat} (h0 : 0 < sz) (hs : ∀ el ∈ xs, el.length = sz) :
    ∃ us : List (List Value), us.length = xs.length ∧ (∀ vs ∈ us, vs.length = sz) ∧ (∀ (j : Nat) (el : List AV) (vs : List Value), xs[j]? = some el → us[j]? = some vs → VL G w el vs) ∧
      ∃ A c, v = .slice A xs.length c ∧ xs.length ≤ c ∧ (∀ (p : Nat) (u : Value), us.flatten[p]? = some u → ∃ ad : Addr, A = some ad ∧ w.cell? (ad.add p) = some u) ∧ (∀ u ∈ us.flatten, u.oneCell' = true) := by
  cases h with
  | @sl0 _ A c _ => exact ⟨[], rfl, (fun vs h => by cases h), (fun j el vs h => by simp at h), A, c, rfl, Nat.zero_le _, (fun p u h => by simp at h), (fun u h => by simp at h)⟩
  | @sl _ _ b o m c sz' f hm0 hm hc hcm hs0 hel htk hcell hV =>
    have hg0 : xs[0]? = some (xs.getD 0 []) := by rw [List.getD_eq_getElem?_getD, List.getElem?_eq_getElem (by omega)]; rfl
    have hsz : sz' = sz := by
      have h1 := hel _ (List.mem_of_getElem? hg0)
      have h2 := hs _ (List.mem_of_getElem? hg0)
      omega
    subst hsz
    have hlen : ∀ vs ∈ (List.range xs.length).map (fun j => (List.range sz').map (f j)), vs.length = sz' := by
      intro vs hvs
      obtain ⟨j, _, rfl⟩ := List.mem_map.1 hvs
      simp
    have hflat : ∀ (p : Nat) (u : Value), ((List.range xs.length).map (fun j => (List.range sz').map (f j))).flatten[p]? = some u → w.cell? ⟨b, o + p, none⟩ = some u ∧ u.oneCell' = true := by
      intro p u hp
      have hpl := (List.getElem?_eq_some_iff.1 hp).1
      rw [flat_length _ hlen] at hpl
      simp at hpl
      have hj : p / sz' < xs.length := Nat.div_lt_of_lt_mul (by rw [Nat.mul_comm]; exact hpl)
      have hi : p % sz' < sz' := Nat.mod_lt _ hs0
      have hpe : p / sz' * sz' + p % sz' = p := by rw [Nat.mul_comm]; exact Nat.div_add_mod _ _
      have h1 := flat_get _ (p / sz') (p % sz') _ hlen (by rw [List.getElem?_map, List.getElem?_range hj]; rfl) hi
      rw [hpe, hp, List.getElem?_map, List.getElem?_range hi] at h1
      have hu : u = f (p / sz') (p % sz') := by simpa using h1
      have hel' : xs[p / sz']? = some xs[p / sz'] := List.getElem?_eq_getElem hj
      have hx' : (xs[p / sz'])[p % sz']? = some ((xs[p / sz'])[p % sz']'(by rw [hel _ (List.getElem_mem hj)]; exact hi)) := List.getElem?_eq_getElem _
      obtain ⟨c1, c2, c3⟩ := hcell _ _ _ _ hel' hx'
      rw [hpe] at c2
      rw [hu]
      exact ⟨c2, c3⟩
    refine ⟨(List.range xs.length).map (fun j => (List.range sz').map (f j)), by simp, hlen, ?_, some ⟨b, o, none⟩, c, by rw [hm], by omega, fun p u hp => ⟨_, rfl, by rw [Addr.add_lit]; exact (hflat p u hp).1⟩, fun u hu => ?_⟩
    · intro j el vs hj hvs
      have hjl := (List.getElem?_eq_some_iff.1 hj).1
      rw [List.getElem?_map, List.getElem?_range hjl] at hvs
      simp at hvs
      subst hvs
      refine ⟨by simp [hel el (List.mem_of_getElem? hj)], fun i x v hx hv => ?_⟩
      have hil : i < sz' := by
        have := (List.getElem?_eq_some_iff.1 hx).1
        rw [hel el (List.mem_of_getElem? hj)] at this; exact this
      rw [List.getElem?_map, List.getElem?_range hil] at hv
      simp at hv
      subst hv
      exact ⟨hV j i el x hj hx, (hcell j i el x hj hx).2.2⟩
    · obtain ⟨p, hp⟩ := List.mem_iff_getElem?.1 hu
      exact (hflat p u hp).2

theorem rowE_ok (h : Rel C E G s a w) {d : Option Nat} (hd : ∀ t, d = some t → t < s.N) {t : TypeId} {n : Nat} {ps : Array (Nat × Operand)} {qs : List (Nat × AV)} (hq : evalP s ps.toList = some qs) {eff : Eff} (he : rowE C.P t n qs = some eff) :
    ∃ r w', (Instr.buildSlice t n (ps.map fun (i, x) => (i, a.eval x))).run C.P w = .ok r w' ∧ Res C E (apEff s d eff) d a (.ok (.value r) w') := by
  unfold rowE at he
  obtain ⟨e, he1, he⟩ := Option.bind_eq_some_iff.1 he
  obtain ⟨⟨sz, by_⟩, he2, he⟩ := Option.bind_eq_some_iff.1 he
  dsimp only at he
  split at he
  case isFalse => cases he
  rename_i hcond
  obtain ⟨h0, hle, hidx, hall⟩ := hcond
  cases he
  obtain ⟨i, z, hi, hz, hzs, hsz, hby, hszT⟩ := infoT_ok he2
  obtain ⟨hq1, hq2⟩ := evalP_ok h hq
  have hn : qs.length = n := by have := congrArg List.length hidx; simpa using this
  have hpl : ps.size = n := by rw [← hn, hq1]; simp
  -- the parts
  have hparts : ∀ (j : Nat) (p : Nat × Value), (ps.map fun (i, x) => (i, a.eval x)).toList[j]? = some p → ∃ q, qs[j]? = some q ∧ p.1 = j ∧ V G w q.2 p.2 := by
    intro j p hp
    simp only [Array.toList_map, List.getElem?_map] at hp
    obtain ⟨⟨i', y⟩, g1, g2⟩ := Option.map_eq_some_iff.1 hp
    cases g2
    have hjl : j < qs.length := by have := (List.getElem?_eq_some_iff.1 g1).1; simp at this; omega
    obtain ⟨⟨qi, qx⟩, hqj⟩ : ∃ q, qs[j]? = some q := ⟨_, List.getElem?_eq_getElem hjl⟩
    obtain ⟨k1, k2⟩ := hq2 j qi i' qx y hqj g1
    have h3 : (qs.map (·.1))[j]? = some j := by rw [hidx, List.getElem?_range (by omega)]
    rw [List.getElem?_map, hqj] at h3
    have h4 : qi = j := by simpa using h3
    exact ⟨(qi, qx), hqj, by show i' = j; omega, k2⟩
  have hcells : ∀ (j : Nat) (p : Nat × Value), (ps.map fun (i, x) => (i, a.eval x)).toList[j]? = some p → p.1 = 0 + j ∧ p.2.cells.size = sz := by
    intro j p hp
    obtain ⟨q, e1, e2, e3⟩ := hparts j p hp
    obtain ⟨f1, f2⟩ := hall q (List.mem_of_getElem? e1)
    have := (e3.cells (by intro vs e; rw [e] at f1; cases f1)).1
    exact ⟨by omega, by rw [f2] at this; simpa using this.symm⟩
  have hfill : ∀ zc : Array Value, ∃ arr, Instr.fill (fun i => some (i * sz, sz)) ((Array.range (n * sz)).map (zc[· % zc.size]!)) (ps.map fun (i, x) => (i, a.eval x)).toList = some arr ∧
      arr.toList = ((ps.map fun (i, x) => (i, a.eval x)).toList.map fun p => p.2.cells.toList).flatten := by
    intro zc
    obtain ⟨arr, ha1, ha2⟩ := fill_all (size := sz) (ps.map fun (i, x) => (i, a.eval x)).toList 0 ((Array.range (n * sz)).map (zc[· % zc.size]!)) hcells (by simp [hpl])
    exact ⟨arr, ha1, by rw [ha2]; simp⟩
  obtain ⟨arr, harr, hrun⟩ : ∃ arr : Array Value, arr.toList = ((ps.map fun (i, x) => (i, a.eval x)).toList.map fun p => p.2.cells.toList).flatten ∧
      (Instr.buildSlice t n (ps.map fun (i, x) => (i, a.eval x))).run C.P w = .ok (.slice (some ⟨w.heap.size, 0, none⟩) n n) (w.alloc (.cells arr e)) := by
    by_cases hnz : n * sz = 0
    · obtain ⟨arr, ha1, ha2⟩ := hfill #[]
      refine ⟨arr, ha2, ?_⟩
      unfold Instr.buildSlice
      simp only [Sem.run_bind, run_underlyingT (elT_ok he1), Result.andThen, run_szOf hszT]
      rw [if_neg (by omega), if_pos hnz]
      simp only [Sem.run_bind, Sem.run_pure, Result.andThen]
      rw [ha1]
      rfl
    · obtain ⟨arr, ha1, ha2⟩ := hfill z.cells
      refine ⟨arr, ha2, ?_⟩
      have hzr : (zeroValue e).run C.P w = .ok z w := run_zeroT (by rw [hi]; exact hz)
      unfold Instr.buildSlice
      simp only [Sem.run_bind, run_underlyingT (elT_ok he1), Result.andThen, run_szOf hszT]
      rw [if_neg (by omega), if_neg hnz]
      simp only [Sem.run_bind, Sem.run_pure, Result.andThen, hzr]
      rw [ha1]
      rfl
  refine ⟨_, _, hrun, ?_⟩
  have hus : ∀ vs ∈ ((ps.map fun (i, x) => (i, a.eval x)).toList.map fun p => p.2.cells.toList), vs.length = sz := by
    intro vs hvs
    obtain ⟨p, hp, rfl⟩ := List.mem_map.1 hvs
    obtain ⟨j, hj⟩ := List.mem_iff_getElem?.1 hp
    simpa using (hcells j p hj).2
  have hn0 : n ≤ 16777216 := Nat.le_trans (Nat.le_mul_of_pos_right n h0) hle
  obtain ⟨G', g1, g2, _⟩ := h.newLit (w' := w.alloc (.cells arr e)) (xs := qs.map fun p => p.2.cells.map er1) (us := (ps.map fun (i, x) => (i, a.eval x)).toList.map fun p => p.2.cells.toList) (cur := arr) (c := n) (e := e) hszT h0
    (fun el hel => by obtain ⟨p, hp, rfl⟩ := List.mem_map.1 hel; simpa using (hall p hp).2) (by simp [hn, hpl]) (fun j el vs hj hvs => by
      rw [List.getElem?_map] at hj hvs
      obtain ⟨q, e1, rfl⟩ := Option.map_eq_some_iff.1 hj
      obtain ⟨p, e2, rfl⟩ := Option.map_eq_some_iff.1 hvs
      obtain ⟨q', e3, e4, e5⟩ := hparts j p e2
      rw [e1] at e3; cases e3
      have f1 := (hall q (List.mem_of_getElem? e1)).1
      exact (e5.cells (by intro vs e; rw [e] at f1; cases f1)).er) (by simp [hn]) (by unfold maxLen; omega)
    (by rw [← Array.length_toList, harr, flat_length _ hus]; simp [hpl]) (by rw [← harr, List.take_of_length_le]; rw [harr, flat_length _ hus]; simp [hpl, hn])
    ((Below.refl _ _).alloc (Nat.le_refl _) _) (heap_alloc_new w _) (Array.size_push _)
  have hlen : (qs.map fun p => p.2.cells.map er1).length = n := by simp [hn]
  rw [hlen] at g2
  exact ⟨_, G', _, .inl rfl, g1.put (d := d) hd g2⟩
end
end Go.Proofs.AL
namespace Go.Proofs.AL
open Go Go.RowKit
set_option linter.unusedSimpArgs false
set_option linter.unusedVariables false

section
variable {C : Cx} {E : Env} {G : Gh} {s : AS} {a : Act} {w : World} {P : Program}
theorem V.retok {t t' : Nat} {xs : List (List AV)} {v : Value} (h : V G w (.sl t xs) v) (hn : t' ≠ 2) (ht : G.tk t' = some v) : V G w (.sl t' xs) v := by
  cases h with
  | sl0 _ => exact .sl0 (.inr (.inr ⟨hn, ht⟩))
  | sl f h0 hn' hc hcm hs he _ hcell hV => exact .sl f h0 hn' hc hcm hs he (.inr (.inr ⟨hn, ht⟩)) hcell hV
theorem V.tok_inv {t : Nat} {xs : List (List AV)} {v : Value} (h : V G w (.sl t xs) v) (h0 : t ≠ 0) (h2 : t ≠ 2) : G.tk t = some v := by
  cases h with
  | sl0 ht => rcases ht with ht | ⟨ht, _⟩ | ⟨_, ht⟩
              · exact absurd ht h0
              · exact absurd ht h2
              · exact ht
  | sl f a1 a2 a3 a4 a5 a6 ht _ _ => rcases ht with ht | ⟨ht, _⟩ | ⟨_, ht⟩
                                     · exact absurd ht h0
                                     · exact absurd ht h2
                                     · exact ht
theorem V.full_inv {xs : List (List AV)} {A : Option Addr} {n c : Nat} (h : V G w (.sl 2 xs) (.slice A n c)) : c = n := by
  cases h with
  | sl0 ht => rcases ht with ht | ⟨_, ht⟩ | ⟨ht, _⟩
              · cases ht
              · exact ht
              · exact absurd rfl ht
  | sl f a1 a2 a3 a4 a5 a6 ht _ _ => rcases ht with ht | ⟨_, ht⟩ | ⟨ht, _⟩
                                     · cases ht
                                     · exact ht
                                     · exact absurd rfl ht
theorem below_drew_alloc (w : World) (o : Obj) : Below w.heap.size w (w.drew.alloc o) := by
  have : Below w.heap.size w w.drew := (Below.refl _ _).drew
  exact this.alloc (Nat.le_refl _) _
theorem app_core (h : Rel C E G s a w) {d : Option Nat} (hd : ∀ t, d = some t → t < s.N) {t t' : TypeId} {k : Nat} {xs ys : List (List AV)} {v u : Value} {e : TypeId} {i : TypeInfo} {z : Value} {by_ : Nat} (hx : V G w (.sl k xs) v) (ty : TypeId)
    (he1 : elT C.P t = some e) (hi : C.P.info? e = some i) (hz : i.zero = some z) (hzs : z.cells.size = i.size) (hby : i.bytes = by_) (hszT : szOf C.P e = some i.size) (h0 : 0 < i.size) (hb0 : 0 < by_) (hle : (xs.length + ys.length) * by_ ≤ 140737488355328) (hxs : ∀ el ∈ xs, el.length = i.size)
    (htok : k = 1 ∨ (k = 2 ∧ ys ≠ []) ∨ (k ≠ 0 ∧ k ≠ 2 ∧ s.live k = some (.ty e))) (nothing : ys = [] → (Builtin.append_ #[t, t'] ty #[v, u]).run C.P w = .ok v w)
    (us : List (List Value)) (ul : us.length = ys.length) (ulen : ∀ vs ∈ us, vs.length = i.size) (hsrc : Src C.P i.size t' u ys.length us.flatten w) (hys' : ∀ el ∈ ys, el.length = i.size) (uV' : ∀ (j : Nat) (el : List AV) (vs : List Value), ys[j]? = some el → us[j]? = some vs → VL G w el vs) :
    ∃ r w', (Builtin.append_ #[t, t'] ty #[v, u]).run C.P w = .ok r w' ∧ Res C E (apEff s d (.app k e (xs ++ ys))) d a (.ok (.value r) w') := by
  by_cases hne : ys = []
  · -- the same row under another token
    have hown : ∃ v0, OwnT C E G w e v0 ∧ v = v0 ∧ (k ≠ 1 → s.live k = some (.ty e) ∧ G.tk k = some v0) := by
      rcases htok with rfl | ⟨_, hk⟩ | ⟨hk0, hk2, hlive⟩
      · have h1 := hx.tok_inv (by decide) (by decide)
        rw [h.t1] at h1
        exact ⟨nilSl, .inl rfl, (Option.some.inj h1).symm, fun hk => absurd rfl hk⟩
      · exact absurd hne hk
      · obtain ⟨v0, hv0, ho⟩ := h.lv k _ hlive
        have h1 := hx.tok_inv hk0 hk2
        rw [hv0] at h1
        exact ⟨v0, ho, (Option.some.inj h1).symm, fun _ => ⟨hlive, hv0⟩⟩
    obtain ⟨v0, ho, rfl, hk⟩ := hown
    have hadd := (h.dropTok k).addTok (e := .ty e) (v := v) ho (fun u' e' x' g1 hu hx' hg1 hown => by
      have hu : (if u' = k then none else s.live u') = some e' := hu
      by_cases hk' : u' = k
      · rw [if_pos hk'] at hu; cases hu
      · rw [if_neg hk'] at hu
        by_cases hk1 : k = 1
        · subst hk1
          have h1 := hx.tok_inv (by decide) (by decide)
          rw [h.t1] at h1
          rw [← Option.some.inj h1] at hg1; cases hg1
        · obtain ⟨hlive, hv0⟩ := hk hk1
          exact hk' (h.ld u' k e' _ x' v g1 hu hlive hx' hv0 hown hg1))
    subst hne
    refine ⟨v, w, nothing rfl, w, _, _, .inl rfl, hadd.put (d := d) hd ?_⟩
    have hxm : V { G with tk := fun t => if t = s.next then some v else G.tk t } w (.sl k xs) v := by
      have mo : Mo G w { G with tk := fun t => if t = s.next then some v else G.tk t } w := ⟨fun _ _ _ a b => ⟨a, b⟩, fun _ _ e => e, fun t u e => by
        show (if t = s.next then some v else G.tk t) = some u
        rw [if_neg (fun e' => by rw [e', h.fr _ (Nat.le_refl _)] at e; cases e)]; exact e, fun _ h => h, fun _ h => h⟩
      exact hx.mono mo
    have : xs ++ ([] : List (List AV)) = xs := by simp
    rw [this]
    exact hxm.retok (by have := h.ne; omega) (if_pos rfl)
  have hm0 : 0 < ys.length := List.length_pos_iff.2 hne
  have hflat : us.flatten.length = ys.length * i.size := by rw [flat_length us ulen, ul]
  have hn63 : xs.length + ys.length ≤ 140737488355328 := by
    have : (xs.length + ys.length) * 1 ≤ (xs.length + ys.length) * by_ := Nat.mul_le_mul_left _ hb0
    omega
  -- what it is appended to
  obtain ⟨ws, wl, wlen, wV, A, c, rfl, wc, wcell, wone⟩ := hx.rows h0 hxs
  have hcat : ∀ (j : Nat) (el : List AV) (vs : List Value), (xs ++ ys)[j]? = some el → (ws ++ us)[j]? = some vs → VL G w el vs := fun j el vs hj hvs => by
    rcases Nat.lt_or_ge j xs.length with h1 | h1
    · rw [List.getElem?_append_left h1] at hj
      rw [List.getElem?_append_left (by omega)] at hvs
      exact wV j el vs hj hvs
    · rw [List.getElem?_append_right h1] at hj
      rw [List.getElem?_append_right (by omega), wl] at hvs
      exact uV' _ el vs hj hvs
  have hcatl : ∀ el ∈ xs ++ ys, el.length = i.size := fun el hel => by
    rcases List.mem_append.1 hel with h1 | h1
    · exact hxs el h1
    · exact hys' el h1
  have hlen : (xs ++ ys).length = xs.length + ys.length := by simp
  -- a new row
  have grows : c < xs.length + ys.length → ∃ r w', (Builtin.append_ #[t, t'] ty #[.slice A xs.length c, u]).run C.P w = .ok r w' ∧
      Res C E (apEff s d (.app k e (xs ++ ys))) d a (.ok (.value r) w') := by
    intro hlt
    have hold : (Builtin.firstCells i.size xs.length (.slice A xs.length c)).run C.P w.drew = .ok ws.flatten.toArray w.drew := by
      cases A with
      | none =>
        have : ws.flatten = [] := by
          rcases List.eq_nil_or_concat ws.flatten with h1 | ⟨l, u, h1⟩
          · exact h1
          · exfalso
            have hp : 0 < ws.flatten.length := by rw [h1]; simp
            obtain ⟨ad', h2, _⟩ := wcell 0 _ (List.getElem?_eq_getElem hp)
            cases h2
        rw [this]
        exact run_firstCells_none _ _ _ _ _
      | some ad' => exact run_firstCells_some w.drew i.size xs.length ad' xs.length c ws.flatten (by rw [flat_length ws wlen, wl]) (fun j u hj => by obtain ⟨ad'', h1, h2⟩ := wcell j u hj; cases h1; exact h2)
    have hcap := grownCap_ge w (xs.length + ys.length) c e
    have hcapm := grownCap_le_maxLen w (xs.length + ys.length) c e (by unfold maxLen; omega)
    have hrun := run_append_grow_src w t t' ty e i z (elT_ok he1) hi hz A xs.length c ws.flatten hold _ ys.length us.flatten hsrc hlt (by omega)
      (by rw [hby]; have h1 := nextslicecap_le (need := xs.length + ys.length) (old := c) hlt
          have h2 : Builtin.nextslicecap (xs.length + ys.length) c * by_ ≤ 2 * (xs.length + ys.length) * by_ := Nat.mul_le_mul_right _ h1
          rw [Nat.mul_assoc] at h2; omega)
    refine ⟨_, _, hrun, ?_⟩
    have hzl : (Builtin.zeroCells z.cells (grownCap w (xs.length + ys.length) c e - (xs.length + ys.length))).size = (grownCap w (xs.length + ys.length) c e - (xs.length + ys.length)) * i.size := by
      simp [Builtin.zeroCells, hzs]
    have hfl : (ws.flatten ++ us.flatten).length = (xs.length + ys.length) * i.size := by rw [List.length_append, flat_length ws wlen, wl, hflat, Nat.add_mul]
    obtain ⟨G', g1, g2, _⟩ := (h.dropTok k).newRow (w' := w.drew.alloc (.cells ((ws.flatten ++ us.flatten).toArray ++ Builtin.zeroCells z.cells (grownCap w (xs.length + ys.length) c e - (xs.length + ys.length))) e))
      (xs := xs ++ ys) (us := ws ++ us) (c := grownCap w (xs.length + ys.length) c e) (e := e) hszT h0 hcatl (by simp [wl, ul]) hcat (by rw [hlen]; exact hcap) hcapm
      (by rw [Array.size_append, List.size_toArray, hfl, hzl, ← Nat.add_mul]; congr 1; omega)
      (by rw [hlen, Array.toList_append, List.take_append_of_le_length (by simp only [List.toList_toArray]; rw [hfl]; exact Nat.le_refl _), List.toList_toArray, List.take_of_length_le (by rw [hfl]; exact Nat.le_refl _), List.flatten_append])
      (below_drew_alloc w _) (heap_alloc_new w.drew _) (Array.size_push _)
    rw [hlen] at g2
    exact ⟨_, G', _, .inl rfl, g1.put (d := d) hd g2⟩
  rcases htok with rfl | ⟨rfl, _⟩ | ⟨hk0, hk2, hlive⟩
  · -- nil
    have hv : (Value.slice A xs.length c) = nilSl := by
      have h1 := hx.tok_inv (by decide) (by decide)
      rw [h.t1] at h1
      exact (Option.some.inj h1).symm
    have hc0 : c = 0 := by have := hv; unfold nilSl at this; injection this
    exact grows (by omega)
  · have := hx.full_inv
    exact grows (by omega)
  · obtain ⟨v0, hv0, hown⟩ := h.lv k _ hlive
    have hvv : v0 = .slice A xs.length c := by
      have h1 := hx.tok_inv hk0 hk2
      rw [hv0] at h1
      exact Option.some.inj h1
    rcases hown with e0 | ⟨g, n, c0, size, cur, e1, e2, e3, e4, e5, e6, e7, e8, e9, e10⟩
    · rw [e0] at hvv
      have hc0 : c = 0 := by unfold nilSl at hvv; injection hvv with _ _ q3; exact q3.symm
      exact grows (by omega)
    rw [e1] at hvv
    injection hvv with q1 q2 q3
    subst q1
    subst q2
    subst q3
    have hsize : size = i.size := by
      have : (C.P.info? e).map (·.size) = some i.size := hszT
      rw [this] at e6
      exact (Option.some.inj e6).symm
    subst hsize
    rcases Nat.lt_or_ge c0 (xs.length + ys.length) with hlt | hge
    · exact grows hlt
    · have hgl : g < w.heap.size := (Array.getElem?_eq_some_iff.1 e3).1
      have hfit : xs.length * i.size + us.flatten.length ≤ cur.size := by
        rw [hflat, e8, ← Nat.add_mul]; exact Nat.mul_le_mul_right _ hge
      have hrun := run_append_room_src w t t' ty e i (elT_ok he1) hi g 0 xs.length c0 _ ys.length us.flatten hsrc hge
        (fun j hj => by rw [Nat.zero_add, cell_of_heap e3]; rw [Array.getElem?_eq_getElem (by omega)]; rfl) (fun j hj => by simp [World.frozen?, e3])
      rw [Nat.zero_add] at hrun
      refine ⟨_, _, hrun, ?_⟩
      have hb := h.behind (us := us.flatten) hlive (e1 ▸ hv0) e3 e2 e9 e8 ys.length hflat hge e10
      have hheap := heap_setCells_at us.flatten (xs.length * i.size) w cur e3 hfit
      have hcur' : (splice (xs.length * i.size) us.flatten cur.toList).toArray.size = c0 * i.size := by
        rw [List.size_toArray, splice_length (by simpa using hfit)]; simpa using e8
      have hadd := hb.addTok (e := .ty e) (v := .slice (some ⟨g, 0, none⟩) (xs.length + ys.length) c0)
        (.inr ⟨g, xs.length + ys.length, c0, i.size, _, rfl, e2, hheap, hge, e5, e6, h0, hcur', if_pos rfl, e10⟩) (fun u' e' x' g1 hu hx' hg1 hown => by
          have hg1 : g = g1 := Option.some.inj hg1
          subst hg1
          have hu : (if u' = k then none else s.live u') = some e' := hu
          by_cases hk : u' = k
          · rw [if_pos hk] at hu; cases hu
          · rw [if_neg hk] at hu
            exact hk (h.ld u' k e' _ x' v0 g hu hlive hx' hv0 hown (by rw [e1]; rfl)))
      refine ⟨_, _, _, .inl rfl, hadd.put (d := d) hd ?_⟩
      -- the value
      have mo : Mo G w { m := fun b => if b = g then (xs.length + ys.length) * i.size else G.m b, blk := G.blk, tk := fun t => if t = s.next then some (.slice (some ⟨g, 0, none⟩) (xs.length + ys.length) c0) else G.tk t } (w.setCells g (xs.length * i.size) us.flatten) := by
        refine ⟨fun b o v h1 h2 => ?_, fun _ _ e => e, fun t v e => ?_, fun _ h => kq_setCells e3 hfit h, fun _ h => km_setCells e3 h⟩
        · by_cases hb' : b = g
          · subst hb'
            rw [e9] at h1
            refine ⟨by show o < (if b = b then _ else _); rw [if_pos rfl, Nat.add_mul]; omega, ?_⟩
            rw [cell_of_heap hheap]
            rw [cell_of_heap e3] at h2
            rw [List.getElem?_toArray, splice_get_lt (by simpa using hfit) h1]
            simpa using h2
          · exact ⟨by show o < (if b = g then _ else _); rw [if_neg hb']; exact h1, by rw [World.cell?_of_block (heap_setCells_ne hb' _ _ w)]; exact h2⟩
        · show (if t = s.next then _ else G.tk t) = some v
          rw [if_neg (fun e' => by rw [e', h.fr _ (Nat.le_refl _)] at e; cases e)]; exact e
      have hcell : ∀ (j q : Nat) (el : List AV) (x : AV), (xs ++ ys)[j]? = some el → el[q]? = some x → ∃ v', (w.setCells g (xs.length * i.size) us.flatten).cell? ⟨g, j * i.size + q, none⟩ = some v' ∧ V G w x v' ∧ v'.oneCell' = true ∧ j * i.size + q < (xs.length + ys.length) * i.size := by
        intro j q el x hj hq
        have hjl := (List.getElem?_eq_some_iff.1 hj).1
        rw [hlen] at hjl
        have hql : q < i.size := by
          have := (List.getElem?_eq_some_iff.1 hq).1
          rw [hcatl el (List.mem_of_getElem? hj)] at this; exact this
        have hlt : j * i.size + q < (xs.length + ys.length) * i.size := by
          have : (j + 1) * i.size ≤ (xs.length + ys.length) * i.size := Nat.mul_le_mul_right _ hjl
          rw [Nat.add_mul] at this; omega
        have hju : j < (ws ++ us).length := by simp [wl, ul]; exact hjl
        have hV := hcat j el (ws ++ us)[j] hj (List.getElem?_eq_getElem hju)
        have hall : ∀ vs ∈ ws ++ us, vs.length = i.size := fun vs hvs => by
          rcases List.mem_append.1 hvs with h1 | h1
          · exact wlen vs h1
          · exact ulen vs h1
        have hq' : q < ((ws ++ us)[j]).length := by rw [hall _ (List.getElem_mem hju)]; exact hql
        have hf := flat_get (ws ++ us) j q _ hall (List.getElem?_eq_getElem hju) hql
        rw [List.getElem?_eq_getElem hq', List.flatten_append] at hf
        refine ⟨((ws ++ us)[j])[q], ?_, (hV.2 q x _ hq (List.getElem?_eq_getElem hq')).1, (hV.2 q x _ hq (List.getElem?_eq_getElem hq')).2, hlt⟩
        have hwl : ws.flatten.length = xs.length * i.size := by rw [flat_length ws wlen, wl]
        rw [cell_of_heap hheap, List.getElem?_toArray]
        rcases Nat.lt_or_ge (j * i.size + q) (xs.length * i.size) with h1 | h1
        · rw [splice_get_lt (by simpa using hfit) h1]
          rw [List.getElem?_append_left (by omega)] at hf
          obtain ⟨ad', a1, a2⟩ := wcell _ _ hf
          cases a1
          rw [Addr.add_lit, Nat.zero_add, cell_of_heap e3] at a2
          simpa using a2
        · rw [List.getElem?_append_right (by omega), hwl] at hf
          have hlt2 := (List.getElem?_eq_some_iff.1 hf).1
          have := splice_get_mid (off := xs.length * i.size) (ys := us.flatten) (cs := cur.toList) (i := j * i.size + q - xs.length * i.size) (by simpa using hfit) hlt2
          rw [show xs.length * i.size + (j * i.size + q - xs.length * i.size) = j * i.size + q by omega] at this
          rw [this]; exact hf
      refine .sl (fun j q => (((w.setCells g (xs.length * i.size) us.flatten).cell? ⟨g, j * i.size + q, none⟩)).getD undef) (by omega) hlen.symm hge e5 h0 hcatl (.inr (.inr ⟨by have := h.ne; omega, ?_⟩)) (fun j q el x hj hq => ?_) (fun j q el x hj hq => ?_)
      · show (if s.next = s.next then _ else G.tk s.next) = _
        exact if_pos rfl
      · obtain ⟨v', k1, k2, k3, k4⟩ := hcell j q el x hj hq
        refine ⟨?_, ?_, by rw [k1]; exact k3⟩
        · show 0 + (j * i.size + q) < (if g = g then _ else _)
          rw [if_pos rfl]; omega
        · rw [Nat.zero_add, k1]; rfl
      · obtain ⟨v', k1, k2, k3, k4⟩ := hcell j q el x hj hq
        rw [k1]
        exact k2.mono mo
theorem appE_ok (h : Rel C E G s a w) {d : Option Nat} (hd : ∀ t, d = some t → t < s.N) {t t' : TypeId} {x y : AV} {v u : Value} (hx : V G w x v) (hy : V G w y u) (ty : TypeId) {eff : Eff} (he : appE C.P s t t' x y = some eff) :
    ∃ r w', (Builtin.append_ #[t, t'] ty #[v, u]).run C.P w = .ok r w' ∧ Res C E (apEff s d eff) d a (.ok (.value r) w') := by
  unfold appE at he
  split at he
  case h_3 => cases he
  case h_2 k xs b =>
    obtain ⟨e, he1, he⟩ := Option.bind_eq_some_iff.1 he
    obtain ⟨⟨sz, by_⟩, he2, he⟩ := Option.bind_eq_some_iff.1 he
    dsimp only at he
    obtain ⟨i, z, hi, hz, hzs, hsz, hby, hszT⟩ := infoT_ok he2
    subst hsz
    split at he
    case isFalse => cases he
    rename_i hcond
    obtain ⟨hst, hs1, hb0, hle, hxs, htok⟩ := hcond
    cases he
    cases hy
    have hu : C.P.underlying t' = some .string := by
      unfold strT at hst
      split at hst
      · assumption
      · cases hst
    have hlen : (strRows b).length = b.size := by simp [strRows]
    have hsrc0 := Src.ofString w hu b
    obtain ⟨A, c, rfl, hc1, hc2⟩ := hx.sl_sizes
    have hnil : strRows b = [] → b.size = 0 := fun q => by rw [← hlen, q]; rfl
    have hne : b.size ≠ 0 → strRows b ≠ [] := fun q q2 => q (hnil q2)
    have hfl : ∀ l : List Value, (l.map fun x => [x]).flatten = l := fun l => by
      induction l with
      | nil => rfl
      | cons x l ih => simp [ih]
    refine app_core (ys := strRows b) (u := .string b) (t' := t') h hd hx ty he1 hi hz hzs hby hszT (by omega) hb0 (by rw [hlen]; exact hle) (by rw [hs1]; exact hxs) (htok.imp_right (Or.imp (fun q => ⟨q.1, hne q.2⟩) (fun ⟨a, b, c⟩ => ⟨a, b, tyOf_ok c⟩))) (fun q => ?_) ((byteCells b).map fun x => [x]) (by simp [byteCells, strRows]) (by rw [hs1]; simp) ?_ (by rw [hs1]; simp [strRows]) ?_
    · have h0 := hnil q
      refine run_append_nothing w t t' ty e i (elT_ok he1) hi A xs.length c hc1 _ ?_
      have hb0 : byteCells b = [] := List.eq_nil_of_length_eq_zero (by rw [byteCells_length]; exact h0)
      rw [hs1]
      rw [h0, hb0] at hsrc0
      exact hsrc0
    · rw [hs1, hlen, hfl]; exact hsrc0
    · intro j el vs hj hvs
      unfold strRows at hj
      unfold byteCells at hvs
      simp only [List.getElem?_map] at hj hvs
      cases hq : b.data.toList[j]? with
      | none => rw [hq] at hj; cases hj
      | some q =>
        rw [hq] at hj hvs
        cases hj
        cases hvs
        exact .cons (.int _ _) rfl .nil
  rename_i k xs k' ys
  obtain ⟨e, he1, he⟩ := Option.bind_eq_some_iff.1 he
  obtain ⟨e', he1', he⟩ := Option.bind_eq_some_iff.1 he
  obtain ⟨⟨sz, by_⟩, he2, he⟩ := Option.bind_eq_some_iff.1 he
  dsimp only at he
  obtain ⟨i, z, hi, hz, hzs, hsz, hby, hszT⟩ := infoT_ok he2
  subst hsz
  have nothing : ys = [] → (Builtin.append_ #[t, t'] ty #[v, u]).run C.P w = .ok v w := by
    intro hnil
    subst hnil
    obtain ⟨A, c, rfl, hc1, hc2⟩ := hx.sl_sizes
    obtain ⟨A', c', rfl, _, _⟩ := hy.sl_sizes
    have hsrc : Src C.P i.size t' (.slice A' 0 c') 0 [] w := by
      cases A' with
      | none => exact Src.ofNil w (elT_ok he1') c'
      | some ad => exact Src.ofSlice w (elT_ok he1') ad 0 c' [] (by simp) (fun j u h => by simp at h) (fun u h => by cases h)
    exact run_append_nothing w t t' ty e i (elT_ok he1) hi A xs.length c hc1 _ hsrc
  split at he
  case isFalse =>
    split at he
    case isFalse => cases he
    rename_i hk
    cases he
    obtain ⟨rfl, hnil⟩ := hk
    exact ⟨_, w, nothing hnil, w, G, _, .inl rfl, h.put hd hx⟩
  rename_i hcond
  obtain ⟨h0, hb0, hle, hxs, hys, htok⟩ := hcond
  have htok : k = 1 ∨ (k = 2 ∧ ys ≠ []) ∨ (k ≠ 0 ∧ k ≠ 2 ∧ s.live k = some (.ty e)) := htok.imp_right (Or.imp_right fun ⟨a, b, c⟩ => ⟨a, b, tyOf_ok c⟩)
  cases he
  by_cases hne : ys = []
  · subst hne
    have := app_core (ys := []) (u := u) (t' := t') h hd hx ty he1 hi hz hzs hby hszT h0 hb0 hle hxs htok nothing [] rfl (by simp) ?_ (by simp) (by simp)
    · simpa using this
    · obtain ⟨A', c', rfl, _, _⟩ := hy.sl_sizes
      cases A' with
      | none => exact Src.ofNil w (elT_ok he1') c'
      | some ad => exact Src.ofSlice w (elT_ok he1') ad 0 c' [] (by simp) (fun j u h => by simp at h) (fun u h => by cases h)
  -- what is appended
  obtain ⟨us, ul, ulen, uV, A', c', rfl, uc, ucell, uone⟩ := hy.rows h0 hys
  have hm0 : 0 < ys.length := List.length_pos_iff.2 hne
  obtain ⟨ad, hA'⟩ : ∃ ad : Addr, A' = some ad := by
    have hlt : 0 < us.flatten.length := by rw [flat_length us ulen, ul]; exact Nat.mul_pos hm0 h0
    obtain ⟨ad, h1, _⟩ := ucell 0 _ (List.getElem?_eq_getElem hlt)
    exact ⟨ad, h1⟩
  subst hA'
  have hflat : us.flatten.length = ys.length * i.size := by rw [flat_length us ulen, ul]
  have hsrc : Src C.P i.size t' (.slice (some ad) ys.length c') ys.length us.flatten w :=
    Src.ofSlice w (elT_ok he1') ad ys.length c' us.flatten hflat (fun j u hj => by obtain ⟨ad', h1, h2⟩ := ucell j u hj; cases h1; exact h2) uone
  have hys' : ∀ el ∈ ys.map (·.map er1), el.length = i.size := fun el hel => by obtain ⟨p, hp, rfl⟩ := List.mem_map.1 hel; simpa using hys p hp
  have uV' : ∀ (j : Nat) (el : List AV) (vs : List Value), (ys.map (·.map er1))[j]? = some el → us[j]? = some vs → VL G w el vs := fun j el vs hj hvs => by
    rw [List.getElem?_map] at hj
    obtain ⟨p, hp, rfl⟩ := Option.map_eq_some_iff.1 hj
    exact (uV j p vs hp hvs).er
  have hne' : ¬ ys.map (·.map er1) = [] := by simpa using hne
  exact app_core (ys := ys.map (·.map er1)) h hd hx ty he1 hi hz hzs hby hszT h0 hb0 (by simpa using hle) hxs (htok.imp_right (Or.imp_left fun q => ⟨q.1, hne'⟩)) (fun q => absurd q hne') us (by simpa using ul) ulen (by simpa using hsrc) hys' uV'
end
end Go.Proofs.AL
namespace Go.Proofs.AL
open Go Go.RowKit
set_option linter.unusedSimpArgs false
set_option linter.unusedVariables false

section
variable {C : Cx} {E : Env} {G : Gh} {s : AS} {a : Act} {w : World} {P : Program}
theorem ldrE_ok (h : Rel C E G s a w) {k j off sz : Nat} {ty : TypeId} {v : Value} {eff : Eff} (hV : V G w (.eptr k j off sz) v) (he : ldrE P ty (s.live k) j off sz = some eff) : ∃ x r, eff = .ldr x ∧ (Instr.loadAt ty v).run P w = .ok r w ∧ V G w x r := by
  have B := @Option.bind_eq_some_iff
  unfold ldrE at he
  obtain ⟨⟨e, xs⟩, hq, he⟩ := B.1 he
  obtain ⟨el, hj, he⟩ := B.1 he
  split at he
  case isFalse => cases he
  rename_i hel
  obtain ⟨x, hx, rfl⟩ := Option.map_eq_some_iff.1 he
  have ht := rowOf_ok hq
  dsimp only at hj ht
  cases hV with
  | @eptr _ _ _ _ g n c htk =>
    rcases h.rowAt ht htk with ⟨h0, hx0⟩ | ⟨g', n', c', size, cur, h2, h3, h4, h5, h6, h7, h8, h9, h10, h11, h12, h13, h14⟩
    · rw [hx0] at hj; simp at hj
    obtain rfl : g = g' := by injection h2 with e1 _ _; injection e1 with e1; injection e1
    have hs : el.length = size := h13 el (List.mem_of_getElem? hj)
    have hjl := (List.getElem?_eq_some_iff.1 hj).1
    have hjs : (j + 1) * size ≤ c' * size := Nat.mul_le_mul_right _ (by omega)
    rw [Nat.add_mul] at hjs
    obtain ⟨r, r1, r2⟩ := readAt_run (P := P) (G := G) (w := w) (b := g) (o := j * sz) (cs := el) (fun i => (cur[j * sz + i]?).getD undef) (fun i y hy => by
      have hl : j * sz + i < cur.size := by have := (List.getElem?_eq_some_iff.1 hy).1; rw [← hel, hs, h9]; omega
      have hg : cur[j * sz + i]? = some cur[j * sz + i] := Array.getElem?_eq_getElem hl
      refine ⟨by rw [cell_of_heap h4, hg]; rfl, ?_⟩
      rw [hg]
      refine h14 j i el y _ hj hy ?_
      rw [← hs, hel]; exact hg) hx
    exact ⟨x, r, rfl, r1, r2⟩
theorem strE_ok (h : Rel C E G s a w) {k j off sz : Nat} {ty : TypeId} {v u : Value} {z : AV} {eff : Eff} (hV : V G w (.eptr k j off sz) v) (hZ : V G w z u) (he : strE P ty (s.live k) k j off sz z = some eff) :
    ∃ w' t e xs, eff = .str t e xs ∧ (Instr.storeAt ty v u).run P w = .ok () w' ∧ Rel C E G (s.setRow t e xs) a w' := by
  have B := @Option.bind_eq_some_iff
  unfold strE at he
  obtain ⟨⟨e, xs⟩, hq, he⟩ := B.1 he
  obtain ⟨el, hj, he⟩ := B.1 he
  split at he
  case isFalse => cases he
  rename_i hcond
  obtain ⟨hel, c1, c2, c3⟩ := hcond
  cases he
  have ht := rowOf_ok hq
  dsimp only at hj ht
  cases hV with
  | @eptr _ _ _ _ g n c htk =>
    have hcz := hZ.cells (by rintro vs rfl; cases c1)
    have hst := h.storeRow ht htk hj c3 hcz
    rcases h.rowAt ht htk with ⟨h0, hx0⟩ | ⟨g', n', c', size, cur, h2, h3, h4, h5, h6, h7, h8, h9, h10, h11, h12, h13, h14⟩
    · rw [hx0] at hj; simp at hj
    obtain rfl : g = g' := by injection h2 with e1 _ _; injection e1 with e1; injection e1
    have hs : el.length = size := h13 el (List.mem_of_getElem? hj)
    have hjl := (List.getElem?_eq_some_iff.1 hj).1
    have hjs : (j + 1) * size ≤ c' * size := Nat.mul_le_mul_right _ (by omega)
    rw [Nat.add_mul] at hjs
    have hlen : u.cells.size = z.cells.length := by have := hcz.1; simpa using this.symm
    have hrun := run_storeCells_cells (P := P) g (j * sz + off) u.cells.toList 0 w (fun i hi => by
        rw [Nat.add_zero, cell_of_heap h4, Array.getElem?_eq_getElem (by simp at hi; rw [← hel, hs, h9]; omega)]; rfl) (fun i hi => by simp [World.frozen?, h4]) (fun u' hu => by
        obtain ⟨i, hi⟩ := List.mem_iff_getElem?.1 hu
        have hil : i < z.cells.length := by have := (List.getElem?_eq_some_iff.1 hi).1; simp at this; omega
        exact (hcz.2 i _ u' (List.getElem?_eq_getElem hil) hi).2)
    rw [Nat.add_zero] at hrun
    rw [hel] at hst
    rw [spl_eq hel]
    refine ⟨_, k, e, _, rfl, ?_, hst⟩
    simp only [Instr.storeAt, Instr.sureAddr, storeVar, Sem.run_bind, Sem.run_pure, Result.andThen, run_szOf c2]
    rw [if_neg (by rw [hlen]; simp)]
    simp only [hrun, Result.andThen, Sem.run_pure]
theorem mkE_ok (h : Rel C E G s a w) {d : Option Nat} (hd : ∀ t, d = some t → t < s.N) {t : TypeId} {l c : AV} {lv cv : Value} (hl : V G w l lv) (hc : V G w c cv) {eff : Eff} (he : mkE C.P t l c = some eff) :
    ∃ r w', (Instr.makeSlice t lv cv).run C.P w = .ok r w' ∧ ∃ G', Rel C E G' (apEff s d eff) (a.put d r) w' := by
  have B := @Option.bind_eq_some_iff
  unfold mkE at he
  split at he
  case h_2 => cases he
  rename_i kl n kc m
  obtain ⟨e, he1, he⟩ := B.1 he
  obtain ⟨⟨sz, by_⟩, he2, he⟩ := B.1 he
  obtain ⟨z, hz, he⟩ := B.1 he
  split at he
  case isFalse => cases he
  rename_i hcond
  cases he
  obtain ⟨h0, hzt, hzl, rfl, hn0, hle, hn63⟩ := hcond
  dsimp only at h0 hzl hle
  obtain ⟨i, zv, hi, hzz, hzs, hsz, hby, hszT⟩ := infoT_ok he2
  subst hsz
  rw [hl.int_inv, hc.int_inv]
  have hzV : V G w z zv := by
    unfold zeroT at hz
    obtain ⟨v, h1, h2⟩ := B.1 hz
    rw [hi] at h1
    have : v = zv := by
      have h1 : i.zero = some v := h1
      rw [hzz] at h1
      exact (Option.some.inj h1).symm
    rw [← this]
    exact cv_ok h.t1 h2
  have hzc := hzV.cells (by rintro vs rfl; cases hzt)
  have hrun := run_make (P := C.P) w t e i zv (elT_ok he1) hi hzz kl kc n n hn0 (Int.le_refl _) (by rw [hby, Int.mul_comm]; omega) (by omega)
  have hml : (madeCells zv.cells (n.toNat * i.size)).size = n.toNat * i.size := size_madeCells _ _
  obtain ⟨G', g1, g2, mo⟩ := (h.dropTok 1).newRowK (w' := w.alloc (.cells (madeCells zv.cells (n.toNat * i.size)) e)) (e := e) (sz := i.size) (c := n.toNat) (xs := List.replicate n.toNat z.cells) (cur := madeCells zv.cells (n.toNat * i.size)) hszT h0
    (fun el hel => by rw [(List.mem_replicate.1 hel).2]; exact hzl) (fun j q el x u q1 q2 q3 => by
      have hjn : j < n.toNat := by have := (List.getElem?_eq_some_iff.1 q1).1; simpa using this
      rw [List.getElem?_replicate, if_pos hjn] at q1
      cases q1
      have hq : q < i.size := by have := (List.getElem?_eq_some_iff.1 q2).1; omega
      have hlt : j * i.size + q < n.toNat * i.size := by
        have : (j + 1) * i.size ≤ n.toNat * i.size := Nat.mul_le_mul_right _ hjn
        rw [Nat.add_mul] at this; omega
      have hqz : q < zv.cells.size := by omega
      have e1 : (j * i.size + q) % zv.cells.size = q := by rw [hzs, Nat.mul_comm, Nat.mul_add_mod, Nat.mod_eq_of_lt hq]
      have hu : (madeCells zv.cells (n.toNat * i.size))[j * i.size + q]? = some (zv.cells[q]) := by
        unfold madeCells
        rw [Array.getElem?_map]
        rw [Array.getElem?_eq_getElem (by simpa using hlt)]
        simp only [Array.getElem_range, Option.map_some, e1]
        rw [getElem!_pos zv.cells q hqz]
      rw [hu] at q3
      cases q3
      exact hzc.2 q x _ q2 (by simp [hqz])) (by simp) (by unfold maxLen; omega) hml ((Below.refl _ _).alloc (Nat.le_refl _) _) (heap_alloc_new w _) (Array.size_push _)
  refine ⟨_, _, hrun, G', ?_⟩
  refine g1.put (d := d) hd ?_
  rw [List.length_replicate] at g2 ⊢
  exact .own (.inr ⟨_, rfl⟩) g2
end
end Go.Proofs.AL
namespace Go.Proofs.AL
open Go Go.RowKit
set_option linter.unusedSimpArgs false
set_option linter.unusedVariables false

section
variable {C : Cx} {E : Env} {G : Gh} {s : AS} {a : Act} {w : World} {P : Program}
theorem appA_ok (h : Rel C E G s a w) {d : Option Nat} (hd : ∀ t, d = some t → t < s.N) {t t' : TypeId} {x y : AV} {v u : Value} (hx : V G w x v) (hy : V G w y u) (ty : TypeId) {eff : Eff} (he : appA C.P s t t' x y = some eff) :
    ∃ r w', (Builtin.append_ #[t, t'] ty #[v, u]).run C.P w = .ok r w' ∧ Res C E (apEff s d eff) d a (.ok (.value r) w') := by
  have B := @Option.bind_eq_some_iff
  unfold appA at he
  split at he
  case h_2 => exact appE_ok h hd hx hy ty he
  rename_i q hq
  obtain ⟨k, xs⟩ := q
  dsimp only at he
  unfold appR at he
  split at he
  case h_2 => cases he
  rename_i k' ys
  obtain ⟨e, he1, he⟩ := B.1 he
  obtain ⟨e', he1', he⟩ := B.1 he
  obtain ⟨⟨sz, by_⟩, he2, he⟩ := B.1 he
  dsimp only at he
  obtain ⟨i, z, hi, hz, hzs, hsz, hby, hszT⟩ := infoT_ok he2
  subst hsz
  -- what it is appended to: a row that nobody else knows of, or none
  have hrow : ∃ A n c, v = .slice A n c ∧ n = xs.length ∧ ((c = 0 ∧ n = 0 ∧ xs = []) ∨ ∃ (g : Nat) (cur : Array Value), s.live k = some (.row e xs) ∧ G.tk k = some (.slice A n c) ∧ A = some ⟨g, 0, none⟩ ∧ E.w0.heap.size ≤ g ∧ w.heap[g]? = some (.cells cur e (0, 0)) ∧ n ≤ c ∧ c ≤ maxLen ∧ cur.size = c * i.size ∧ G.m g = 0 ∧ (∀ i : Nat, G.blk[i]? ≠ some g) ∧ (∀ el ∈ xs, el.length = i.size) ∧ 0 < i.size ∧
      ∀ (j q : Nat) (el : List AV) (x : AV) (u : Value), xs[j]? = some el → el[q]? = some x → cur[j * i.size + q]? = some u → V G w x u ∧ u.oneCell' = true) := by
    unfold rowArg at hq
    cases x with
    | own k0 n0 =>
      obtain ⟨⟨e0, xs0⟩, hr, hq⟩ := B.1 hq
      split at hq
      case isFalse => cases hq
      rename_i hc
      obtain ⟨c1, c2⟩ := hc
      cases hq
      dsimp only at c1 c2
      rw [he1] at c1
      cases c1
      have hlive := rowOf_ok hr
      dsimp only at hlive
      cases hx with
      | @own _ _ c A q1 q2 =>
        refine ⟨A, n0, c, rfl, c2.symm, ?_⟩
        rcases h.rowAt hlive q2 with ⟨e0, hx0⟩ | ⟨g, n', c', size, cur, h2, h3, h4, h5, h6, h7, h8, h9, h10, h11, h12, h13, h14⟩
        · subst hx0
          unfold nilSl at e0
          injection e0 with _ q3 q4
          exact .inl ⟨q4, q3, rfl⟩
        · injection h2 with p1 p2 p3
          subst p1; subst p2; subst p3
          have hs : size = i.size := by
            have : (C.P.info? e).map (·.size) = some i.size := hszT
            rw [this] at h7
            exact (Option.some.inj h7).symm
          subst hs
          exact .inr ⟨g, cur, hlive, q2, rfl, h3, h4, h5, h6, h9, h10, h11, h13, h8, h14⟩
    | sl k0 xs0 =>
      dsimp only at hq
      split at hq
      case isFalse => cases hq
      rename_i hc
      obtain ⟨_, _, hk, hz0⟩ := hc
      cases hq
      have hnil : xs0 = [] := List.eq_nil_of_length_eq_zero hz0
      subst hnil
      obtain ⟨A, c, rfl, hc1, hc2⟩ := hx.sl_sizes
      refine ⟨A, 0, c, rfl, rfl, .inl ⟨?_, rfl, rfl⟩⟩
      rcases hk with rfl | rfl
      · have h1 := hx.tok_inv (by decide) (by decide)
        rw [h.t1] at h1
        have h1 := Option.some.inj h1
        unfold nilSl at h1
        injection h1 with _ _ q4
        exact q4.symm
      · have := hx.full_inv
        simpa using this
    | _ => cases hq
  obtain ⟨A, n, c, rfl, hn, hrow⟩ := hrow
  have hcm : n ≤ c := by rcases hrow with ⟨_, h0, _⟩ | ⟨g, cur, _, _, _, _, _, h5, _⟩ <;> omega
  split at he
  · -- nothing
    rename_i hnil
    cases he
    subst hnil
    obtain ⟨A', c', rfl, _, _⟩ := hy.sl_sizes
    have hsrc : Src C.P i.size t' (.slice A' 0 c') 0 [] w := by
      cases A' with
      | none => exact Src.ofNil w (elT_ok he1') c'
      | some ad => exact Src.ofSlice w (elT_ok he1') ad 0 c' [] (by simp) (fun j u h => by simp at h) (fun u h => by cases h)
    exact ⟨_, w, run_append_nothing w t t' ty e i (elT_ok he1) hi A n c hcm _ hsrc, w, G, _, .inl rfl, h.put hd hx⟩
  rename_i hne
  split at he
  case isFalse => cases he
  rename_i hcond
  obtain ⟨h0, hb0, hle, hys⟩ := hcond
  cases he
  obtain ⟨us, ul, ulen, uV, A', c', rfl, uc, ucell, uone⟩ := hy.rows h0 hys
  have hm0 : 0 < ys.length := List.length_pos_iff.2 hne
  obtain ⟨ad, hA'⟩ : ∃ ad : Addr, A' = some ad := by
    have hlt : 0 < us.flatten.length := by rw [flat_length us ulen, ul]; exact Nat.mul_pos hm0 h0
    obtain ⟨ad, h1, _⟩ := ucell 0 _ (List.getElem?_eq_getElem hlt)
    exact ⟨ad, h1⟩
  subst hA'
  have hflat : us.flatten.length = ys.length * i.size := by rw [flat_length us ulen, ul]
  have hsrc : Src C.P i.size t' (.slice (some ad) ys.length c') ys.length us.flatten w :=
    Src.ofSlice w (elT_ok he1') ad ys.length c' us.flatten hflat (fun j u hj => by obtain ⟨ad', h1, h2⟩ := ucell j u hj; cases h1; exact h2) uone
  have hys' : ∀ el ∈ ys.map (·.map er1), el.length = i.size := fun el hel => by obtain ⟨p, hp, rfl⟩ := List.mem_map.1 hel; simpa using hys p hp
  have uV' : ∀ (j : Nat) (el : List AV) (vs : List Value), (ys.map (·.map er1))[j]? = some el → us[j]? = some vs → VL G w el vs := fun j el vs hj hvs => by
    rw [List.getElem?_map] at hj
    obtain ⟨p, hp, rfl⟩ := Option.map_eq_some_iff.1 hj
    exact (uV j p vs hp hvs).er
  have hn63 : n + ys.length ≤ 140737488355328 := by
    have : (n + ys.length) * 1 ≤ (n + ys.length) * by_ := Nat.mul_le_mul_left _ hb0
    rw [hn] at this ⊢
    omega
  have hlen : (xs ++ ys.map (·.map er1)).length = n + ys.length := by simp [hn]
  -- a new row, behind the old one's cells
  have grows : ∀ (old : List Value), (Builtin.firstCells i.size n (.slice A n c)).run C.P w.drew = .ok old.toArray w.drew → old.length = n * i.size → (∀ el ∈ xs, el.length = i.size) →
      (∀ (j q : Nat) (el : List AV) (x : AV) (u : Value), xs[j]? = some el → el[q]? = some x → old[j * i.size + q]? = some u → V G w x u ∧ u.oneCell' = true) → c < n + ys.length →
      ∃ r w', (Builtin.append_ #[t, t'] ty #[.slice A n c, .slice (some ad) ys.length c']).run C.P w = .ok r w' ∧ Res C E (apEff s d (.appr k e (xs ++ ys.map (·.map er1)))) d a (.ok (.value r) w') := by
    intro old hold holdl hxs holdV hlt
    have hcap := grownCap_ge w (n + ys.length) c e
    have hcapm := grownCap_le_maxLen w (n + ys.length) c e (by unfold maxLen; omega)
    have hrun := run_append_grow_src w t t' ty e i z (elT_ok he1) hi hz A n c old hold _ ys.length us.flatten hsrc hlt (by omega)
      (by rw [hby]; have h1 := nextslicecap_le (need := n + ys.length) (old := c) hlt
          have h2 : Builtin.nextslicecap (n + ys.length) c * by_ ≤ 2 * (n + ys.length) * by_ := Nat.mul_le_mul_right _ h1
          rw [Nat.mul_assoc] at h2; rw [← hn] at hle; omega)
    refine ⟨_, _, hrun, ?_⟩
    have hzl : (Builtin.zeroCells z.cells (grownCap w (n + ys.length) c e - (n + ys.length))).size = (grownCap w (n + ys.length) c e - (n + ys.length)) * i.size := by
      simp [Builtin.zeroCells, hzs]
    have hfl : (old ++ us.flatten).length = (n + ys.length) * i.size := by rw [List.length_append, holdl, hflat, Nat.add_mul]
    obtain ⟨G', g1, g2, mo⟩ := (h.dropTok k).newRowK (w' := w.drew.alloc (.cells ((old ++ us.flatten).toArray ++ Builtin.zeroCells z.cells (grownCap w (n + ys.length) c e - (n + ys.length))) e))
      (xs := xs ++ ys.map (·.map er1)) (c := grownCap w (n + ys.length) c e) (e := e) hszT h0 (fun el hel => by
        rcases List.mem_append.1 hel with q | q
        · exact hxs el q
        · exact hys' el q) (fun j q el x u q1 q2 q3 => by
        rcases Nat.lt_or_ge j xs.length with p | p
        · rw [List.getElem?_append_left p] at q1
          have hql : q < i.size := by have := (List.getElem?_eq_some_iff.1 q2).1; rw [hxs el (List.mem_of_getElem? q1)] at this; exact this
          have hm : (j + 1) * i.size ≤ n * i.size := Nat.mul_le_mul_right _ (by omega)
          rw [Nat.add_mul] at hm
          rw [Array.getElem?_append_left (by rw [List.size_toArray, hfl, Nat.add_mul]; omega), List.getElem?_toArray, List.getElem?_append_left (by omega)] at q3
          exact holdV j q el x u q1 q2 q3
        · rw [List.getElem?_append_right p] at q1
          have hjy := (List.getElem?_eq_some_iff.1 q1).1
          have hql : q < i.size := by have := (List.getElem?_eq_some_iff.1 q2).1; rw [hys' el (List.mem_of_getElem? q1)] at this; exact this
          have hju : j - xs.length < us.length := by simp at hjy; omega
          have hf := flat_get us (j - xs.length) q us[j - xs.length] ulen (List.getElem?_eq_getElem hju) hql
          have hm : ((j - xs.length) + 1) * i.size ≤ ys.length * i.size := Nat.mul_le_mul_right _ (by simp at hjy; omega)
          rw [Nat.add_mul] at hm
          have hpos : j * i.size = n * i.size + (j - xs.length) * i.size := by rw [← Nat.add_mul]; congr 1; omega
          rw [Array.getElem?_append_left (by rw [List.size_toArray, hfl, Nat.add_mul]; omega), List.getElem?_toArray, List.getElem?_append_right (by omega), show j * i.size + q - old.length = (j - xs.length) * i.size + q by omega, hf] at q3
          exact (uV' _ el _ q1 (List.getElem?_eq_getElem hju)).2 q x u q2 q3)
      (by rw [hlen]; exact hcap) hcapm
      (by rw [Array.size_append, List.size_toArray, hfl, hzl, ← Nat.add_mul]; congr 1; omega)
      (below_drew_alloc w _) (heap_alloc_new w.drew _) (Array.size_push _)
    rw [hlen] at g2
    refine ⟨_, G', _, .inl rfl, g1.put (d := d) hd ?_⟩
    rw [hlen]
    exact .own (.inr ⟨_, rfl⟩) g2
  rcases hrow with ⟨hc0, hn0, hx0⟩ | ⟨g, cur, q1, q2, q3, q4, q5, q6, q7, q8, q9, q10, q11, q12, q13⟩
  · subst hx0
    refine grows [] ?_ (by simp [hn0]) (fun el hel => by simp at hel) (fun j q el x u e1 => by simp at e1) (by omega)
    cases A with
    | none => exact run_firstCells_none _ _ _ _ _
    | some ad' => exact run_firstCells_some w.drew i.size n ad' n c [] (by simp [hn0]) (fun j u hj => by simp at hj)
  · subst q3
    rcases Nat.lt_or_ge c (n + ys.length) with hlt | hge
    · have hnc : n * i.size ≤ cur.size := by rw [q8]; exact Nat.mul_le_mul_right _ q6
      refine grows (cur.toList.take (n * i.size)) (run_firstCells_some w.drew i.size n ⟨g, 0, none⟩ n c _ (by simp; omega) (fun j u hj => ?_)) (by simp; omega) q11 (fun j q el x u e1 e2 e3 => ?_) hlt
      · rw [List.getElem?_take] at hj
        split at hj
        case isFalse => cases hj
        rw [Addr.add_lit, Nat.zero_add]
        show w.drew.cell? ⟨g, j, none⟩ = some u
        rw [cell_of_heap (w := w.drew) (show w.drew.heap[g]? = _ from q5)]
        simpa using hj
      · rw [List.getElem?_take] at e3
        split at e3
        case isFalse => cases e3
        exact q13 j q el x u e1 e2 (by simpa using e3)
    · have hfit : n * i.size + us.flatten.length ≤ cur.size := by
        rw [hflat, q8, ← Nat.add_mul]; exact Nat.mul_le_mul_right _ hge
      have hrun := run_append_room_src w t t' ty e i (elT_ok he1) hi g 0 n c _ ys.length us.flatten hsrc hge
        (fun j hj => by rw [Nat.zero_add, cell_of_heap q5]; rw [Array.getElem?_eq_getElem (by omega)]; rfl) (fun j hj => by simp [World.frozen?, q5])
      rw [Nat.zero_add] at hrun
      obtain ⟨G', g1, g2, mo⟩ := h.growRow (ys := ys.map (·.map er1)) (us := us) q1 q2 q4 q5 q7 hszT q12 q8 q9 q10 hn q11 q13 (by simpa using ul) hys' uV' (by simpa using hge)
      refine ⟨_, _, hrun, _, G', _, .inl rfl, g1.put (d := d) hd ?_⟩
      rw [hlen]
      rw [List.length_map] at g2
      exact .own (.inr ⟨_, rfl⟩) g2
end
end Go.Proofs.AL
namespace Go.Proofs.AL
open Go Go.RowKit
set_option linter.unusedSimpArgs false
set_option linter.unusedVariables false

section
variable {C : Cx} {E : Env} {G : Gh} {s : AS} {a : Act} {w : World} {P : Program}
theorem zeroT_run (h : Rel C E G s a w) {t : TypeId} {z : AV} (hz : zeroT C.P t = some z) : ∃ v, (zeroValue t).run C.P w = .ok v w ∧ V G w z v := by
  unfold zeroT at hz
  obtain ⟨v, h1, h2⟩ := Option.bind_eq_some_iff.1 hz
  exact ⟨v, run_zeroT h1, cv_ok h.t1 h2⟩
theorem evP_ev (h : Rel C E G s a w) {o : Oper} {eff : Eff} (hd : ∀ t, o.dst = some t → t < s.N) (he : (evP C.P s o.op).map .val = some eff) : Res C E (apEff s o.dst eff) o.dst a ((execOp a.eval o).run C.P w) := by
  obtain ⟨x, hx, rfl⟩ := Option.map_eq_some_iff.1 he
  obtain ⟨v, h1, h2⟩ := evP_ok h hx
  exact ⟨w, G, v, .inl h1, h.put hd h2⟩
theorem ev_ok (h : Rel C E G s a w) {o : Oper} {eff : Eff} (hd : ∀ t, o.dst = some t → t < s.N) (he : ev C.P s o.op = some eff) : Res C E (apEff s o.dst eff) o.dst a ((execOp a.eval o).run C.P w) := by
  have B := @Option.bind_eq_some_iff
  obtain ⟨dst, op, ty, pos, after, guard⟩ := o
  cases op with
  | load t y =>
    obtain ⟨p, hp, he⟩ := B.1 he
    have hV := h.eval hp
    cases p with
    | ptr id off =>
      obtain ⟨cs, hcs, he⟩ := B.1 he
      obtain ⟨x, hx, rfl⟩ := Option.map_eq_some_iff.1 he
      generalize hv : a.eval y = v at hV
      cases hV with
      | @ptr _ _ b hb hkc =>
        obtain ⟨o1, o2, oo⟩ := h.ob id cs b hcs hb
        obtain ⟨cur, T, o3, o4, o5⟩ := oo.cells hkc
        obtain ⟨r, r1, r2⟩ := readAt_run (P := C.P) (G := G) (w := w) (b := b) (o := 0) (cs := cs) (fun i => (cur[i]?).getD undef) (fun i y hy => by
          have hl : i < cur.size := by have := (List.getElem?_eq_some_iff.1 hy).1; omega
          have hg : cur[i]? = some cur[i] := Array.getElem?_eq_getElem hl
          refine ⟨by rw [Nat.zero_add, cell_of_heap o3, hg]; rfl, ?_⟩
          rw [hg]; exact o5 i y _ hy hg) hx
        rw [Nat.zero_add] at r1
        refine ⟨w, G, r, .inl ?_, h.put hd r2⟩
        simp only [execOp, hv, Sem.run_bind, r1, Result.andThen, Sem.run_pure]
    | cptr cs =>
      obtain ⟨x, hx, rfl⟩ := Option.map_eq_some_iff.1 he
      generalize hv : a.eval y = v at hV
      cases hV with
      | @cptr _ b o f h1 h2 =>
        obtain ⟨r, r1, r2⟩ := readAt_run (P := C.P) (G := G) (w := w) (b := b) (o := o) (cs := cs) f (fun i y hy => ⟨(h1 i y hy).2.1, h2 i y hy, (h1 i y hy).2.2⟩) hx
        refine ⟨w, G, r, .inl ?_, h.put hd r2⟩
        rw [Nat.add_zero] at r1
        simp only [execOp, hv, Sem.run_bind, r1, Result.andThen, Sem.run_pure]
    | eptr k j off sz =>
      obtain ⟨x, r, rfl, r1, r2⟩ := ldrE_ok h hV he
      refine ⟨w, G, r, .inl ?_, h.put hd r2⟩
      simp only [execOp, Sem.run_bind, r1, Result.andThen, Sem.run_pure]
    | _ => cases he
  | store t y x =>
    obtain ⟨p, hp, he⟩ := B.1 he
    obtain ⟨z, hz, he⟩ := B.1 he
    have hV := h.eval hp
    have hZ := h.eval hz
    cases p with
    | ptr id off =>
      obtain ⟨cs, hcs, he⟩ := B.1 he
      unfold stE at he
      split at he
      case isFalse => cases he
      rename_i hcond
      obtain ⟨c1, c2, c3⟩ := hcond
      cases he
      generalize hv : a.eval y = v at hV
      cases hV with
      | @ptr _ _ b hb hkc =>
        have hcz := hZ.cells (by rintro vs rfl; cases c1)
        have hst := h.store hcs hb hkc c3 hcz
        obtain ⟨o1, o2, oo⟩ := h.ob id cs b hcs hb
        obtain ⟨cur, T, o3, o4, o5⟩ := oo.cells hkc
        have hlen : (a.eval x).cells.size = z.cells.length := by have := hcz.1; simpa using this.symm
        have hrun := run_storeCells_cells (P := C.P) b off (a.eval x).cells.toList 0 w (fun j hj => by
            rw [Nat.add_zero, cell_of_heap o3, Array.getElem?_eq_getElem (by simp at hj; omega)]; rfl) (fun j hj => by simp [World.frozen?, o3]) (fun u hu => by
            obtain ⟨i, hi⟩ := List.mem_iff_getElem?.1 hu
            have hil : i < z.cells.length := by have := (List.getElem?_eq_some_iff.1 hi).1; simp at this; omega
            exact (hcz.2 i _ u (List.getElem?_eq_getElem hil) hi).2)
        rw [Nat.add_zero] at hrun
        refine ⟨w.setCells b off (a.eval x).cells.toList, G, undef, .inr ⟨?_, rfl⟩, ?_⟩
        · simp only [execOp, hv, Instr.storeAt, Instr.sureAddr, storeVar, Sem.run_bind, Sem.run_pure, Result.andThen, run_szOf c2]
          rw [if_neg (by rw [hlen]; simp)]
          simp only [hrun, Result.andThen, Sem.run_pure]
        · show Rel C E G (({ s with ob := match s.ob[id]? with | some c => s.ob.set id (splice off z.cells c) | none => s.ob } : AS).del dst) (a.put dst undef) _
          rw [hcs]
          exact hst.del undef
    | eptr k j off sz =>
      obtain ⟨w', t', e, xs, rfl, r1, r2⟩ := strE_ok h hV hZ he
      refine ⟨w', G, undef, .inr ⟨?_, rfl⟩, r2.del undef⟩
      simp only [execOp, Sem.run_bind, r1, Result.andThen, Sem.run_pure]
    | _ => cases he
  | alloc t =>
    obtain ⟨z, hz, he⟩ := B.1 he
    obtain ⟨v, h1, h2⟩ := zeroT_run h hz
    have := newA_ok h hd h2 t he
    have hrun : (execOp a.eval ⟨dst, .alloc t, ty, pos, after, guard⟩).run C.P w = .ok (.value (.pointer (some ⟨w.heap.size, 0, none⟩))) (w.alloc (.cells v.cells t)) := by
      simp only [execOp, Instr.alloc, Sem.run_bind, h1, Result.andThen]
      rfl
    rw [hrun]; exact this
  | box t y =>
    obtain ⟨z, hz, he⟩ := B.1 he
    have := newE_ok h hd (h.eval hz) t he
    have hrun : (execOp a.eval ⟨dst, .box t y, ty, pos, after, guard⟩).run C.P w = .ok (.value (.pointer (some ⟨w.heap.size, 0, none⟩))) (w.alloc (.cells (a.eval y).cells t)) := by
      simp only [execOp, Instr.box, Sem.run_bind, Result.andThen]
      rfl
    rw [hrun]; exact this
  | makeSlice t l c =>
    obtain ⟨lv, hlv, he⟩ := B.1 he
    obtain ⟨cv, hcv, he⟩ := B.1 he
    obtain ⟨r, w', h1, G', h2⟩ := mkE_ok h hd (h.eval hlv) (h.eval hcv) he
    exact ⟨w', G', r, .inl (by simp only [execOp, Sem.run_bind, h1, Result.andThen, Sem.run_pure]), h2⟩
  | buildSlice t n ps =>
    obtain ⟨qs, hq, he⟩ := B.1 he
    obtain ⟨r, w', h1, h2⟩ := rowE_ok h hd hq he
    have hrun : (execOp a.eval ⟨dst, .buildSlice t n ps, ty, pos, after, guard⟩).run C.P w = .ok (.value r) w' := by
      simp only [execOp, Sem.run_bind, h1, Result.andThen, Sem.run_pure]
    rw [hrun]; exact h2
  | call c =>
    obtain ⟨callee, args, ts⟩ := c
    cases callee with
    | builtin b =>
      cases b with
      | append =>
        simp only [ev] at he
        split at he
        case h_2 => cases he
        rename_i y z t t' e1 e2
        obtain ⟨k1, k2⟩ := evalL_ok h e1
        obtain ⟨q, q', hq⟩ : ∃ q q', args.toList = [q, q'] := by
          match hl : args.toList, k1 with
          | [q, q'], _ => exact ⟨q, q', rfl⟩
        have hargs : args = #[q, q'] := by rw [← Array.toArray_toList (xs := args), hq]
        have hts : ts = #[t, t'] := by rw [← Array.toArray_toList (xs := ts), e2]
        subst hargs
        subst hts
        obtain ⟨r, w', h1, h2⟩ := appA_ok h hd (k2 0 y q rfl rfl) (k2 1 z q' rfl rfl) ty he
        have hrun : (execOp a.eval ⟨dst, .call ⟨.builtin .append, #[q, q'], #[t, t']⟩, ty, pos, after, guard⟩).run C.P w = .ok (.value r) w' := by
          simp only [execOp, resolve, Sem.run_bind, Sem.run_pure, Result.andThen, invoke, builtin, List.map_toArray, List.map_cons, List.map_nil, h1]
        rw [hrun]; exact h2
      | len =>
        simp only [ev] at he
        split at he
        case h_2 => cases he
        rename_i x t e1 e2
        obtain ⟨k1, k2⟩ := evalL_ok h e1
        obtain ⟨q, hq⟩ : ∃ q, args.toList = [q] := by
          match hl : args.toList, k1 with
          | [q], _ => exact ⟨q, rfl⟩
        have hargs : args = #[q] := by rw [← Array.toArray_toList (xs := args), hq]
        have hts : ts = #[t] := by rw [← Array.toArray_toList (xs := ts), e2]
        subst hargs
        subst hts
        have gen : (lenOf C.P t x).map .val = some eff → Res C E (apEff s dst eff) dst a ((execOp a.eval ⟨dst, .call ⟨.builtin .len, #[q], #[t]⟩, ty, pos, after, guard⟩).run C.P w) := by
          intro he
          refine evP_ev (o := ⟨dst, .call ⟨.builtin .len, #[q], #[t]⟩, ty, pos, after, guard⟩) h hd ?_
          simp only [evP]
          rw [e1]
          exact he
        cases x with
        | mp id =>
          obtain ⟨cs, hcs, he⟩ := B.1 he
          obtain ⟨v, h1, h2⟩ := mlenE_ok h hd (k2 0 _ q rfl rfl) hcs he ty
          have hrun : (execOp a.eval ⟨dst, .call ⟨.builtin .len, #[q], #[t]⟩, ty, pos, after, guard⟩).run C.P w = .ok (.value v) w := by
            simp only [execOp, resolve, Sem.run_bind, Sem.run_pure, Result.andThen, invoke, builtin, List.map_toArray, List.map_cons, List.map_nil, h1]
          exact ⟨w, G, v, .inl hrun, h2⟩
        | _ => exact gen he
      | _ => exact evP_ev h hd he
    | _ => exact evP_ev h hd he
  | makeMap t r =>
    obtain ⟨q, hq, he⟩ := B.1 he
    obtain ⟨u, hu, rfl⟩ := Option.map_eq_some_iff.1 he
    have hut : C.P.underlying t = some (.map q.1 q.2) := by
      unfold mapT at hq; split at hq <;> cases hq; assumption
    have hrun : (execOp a.eval ⟨dst, .makeMap t r, ty, pos, after, guard⟩).run C.P w = .ok (.value (.map (some w.heap.size))) (w.alloc (.map #[] 0)) := by
      have hr : (Instr.makeMap t (r.map a.eval)).run C.P w = .ok (.map (some w.heap.size)) (w.alloc (.map #[] 0)) := by
        cases r with
        | none => rfl
        | some o =>
          unfold resv at hu
          obtain ⟨x, hx, hi⟩ := B.1 hu
          have hV := h.eval hx
          unfold asIntU at hi
          split at hi
          case h_2 => cases hi
          have hv := hV.int_inv
          unfold Instr.makeMap
          simp only [Option.map_some, hv, Sem.run_bind, run_underlyingT hut, Result.andThen]
          rfl
      simp only [execOp, Sem.run_bind, hr, Result.andThen, Sem.run_pure]
    rw [hrun]; exact newm_ok h hd
  | insert t m k x =>
    obtain ⟨p, hp, he⟩ := B.1 he
    obtain ⟨kv, hk, he⟩ := B.1 he
    obtain ⟨xv, hx, he⟩ := B.1 he
    obtain ⟨w', h1, h2⟩ := mputA_ok (d := dst) h (h.eval hp) (h.eval hk) (h.eval hx) he
    have hrun : (execOp a.eval ⟨dst, .insert t m k x, ty, pos, after, guard⟩).run C.P w = .ok .skip w' := by
      simp only [execOp, Sem.run_bind, h1, Result.andThen, Sem.run_pure]
    exact ⟨w', G, undef, .inr ⟨hrun, rfl⟩, h2⟩
  | mapUpdate t m k x =>
    obtain ⟨p, hp, he⟩ := B.1 he
    obtain ⟨kv, hk, he⟩ := B.1 he
    obtain ⟨xv, hx, he⟩ := B.1 he
    obtain ⟨w', h1, h2⟩ := mputA_ok (d := dst) h (h.eval hp) (h.eval hk) (h.eval hx) he
    have hrun : (execOp a.eval ⟨dst, .mapUpdate t m k x, ty, pos, after, guard⟩).run C.P w = .ok .skip w' := by
      simp only [execOp, Sem.run_bind, h1, Result.andThen, Sem.run_pure]
    exact ⟨w', G, undef, .inr ⟨hrun, rfl⟩, h2⟩
  | lookup t m k ok =>
    obtain ⟨p, hp, he⟩ := B.1 he
    obtain ⟨kv, hk, he⟩ := B.1 he
    obtain ⟨v, h1, h2⟩ := mgetA_ok h hd (h.eval hp) (h.eval hk) he
    have hrun : (execOp a.eval ⟨dst, .lookup t m k ok, ty, pos, after, guard⟩).run C.P w = .ok (.value v) w := by
      simp only [execOp, Sem.run_bind, h1, Result.andThen, Sem.run_pure]
    exact ⟨w, G, v, .inl hrun, h2⟩
  | _ => exact evP_ev h hd he
end
end Go.Proofs.AL
namespace Go.Proofs.AL
open Go Go.RowKit
set_option linter.unusedSimpArgs false
set_option linter.unusedVariables false

/-! ## Calls -/
/-- It leads to nothing that may be written. -/
inductive Pu : AV → Prop
  | int (k : IntKind) (n : Int) : Pu (.int k n)
  | bool (b : Bool) : Pu (.bool b)
  | str (s : ByteArray) : Pu (.str s)
  | agg {cs : List AV} : (∀ c ∈ cs, Pu c) → Pu (.agg cs)
  | tup {cs : List AV} : (∀ c ∈ cs, Pu c) → Pu (.tup cs)
  | sl {xs : List (List AV)} : (∀ el ∈ xs, ∀ c ∈ el, Pu c) → Pu (.sl 0 xs)
  | sl1 : Pu (.sl 1 [])
  | sl2 : Pu (.sl 2 [])
  | nilm : Pu .nilm
  | nili : Pu .nili
  | opq : Pu .opq
  | ifc {t : TypeId} {x : AV} : Pu x → Pu (.ifc t x)
  | cptr {cs : List AV} : (∀ c ∈ cs, Pu c) → Pu (.cptr cs)
  | nilp : Pu .nilp
  | fn {f : Fn} {fs cs : List AV} : (∀ c ∈ fs, Pu c) → (∀ c ∈ cs, Pu c) → Pu (.fn f fs cs)
  | nilf : Pu .nilf

def tk1 : Nat → Option Value := fun t => if t = 1 then some nilSl else none
def gh1 (m : Nat → Nat) : Gh := ⟨m, [], tk1⟩

theorem V.pure {G : Gh} {w : World} (ht : G.tk 1 = some nilSl) {x : AV} {v : Value} (h : V G w x v) : Pu x → V (gh1 G.m) w x v := by
  induction h with
  | int k n => exact fun _ => .int k n
  | bool b => exact fun _ => .bool b
  | str s => exact fun _ => .str s
  | agg h1 _ h3 ih => intro hp; cases hp with | agg hc => exact .agg h1 (fun i c e v ev => ih i c e v ev (hc c (List.mem_of_getElem? e))) h3
  | tup h1 _ ih => intro hp; cases hp with | tup hc => exact .tup h1 (fun i c e v ev => ih i c e v ev (hc c (List.mem_of_getElem? e)))
  | sl0 htk =>
    intro hp
    cases hp with
    | sl _ => exact .sl0 (.inl rfl)
    | sl1 => rcases htk with htk | ⟨htk, _⟩ | ⟨_, htk⟩
             · cases htk
             · cases htk
             · rw [ht] at htk; exact .sl0 (.inr (.inr ⟨by decide, by show tk1 1 = _; unfold tk1; rw [if_pos rfl]; exact htk⟩))
    | sl2 => rcases htk with htk | ⟨_, htk⟩ | ⟨htk, _⟩
             · cases htk
             · exact .sl0 (.inr (.inl ⟨rfl, htk⟩))
             · exact absurd rfl htk
  | sl f h0 hn hc hcm hs he htk hcell _ ih =>
    intro hp
    cases hp with
    | sl hc' => exact .sl f h0 hn hc hcm hs he (.inl rfl) hcell (fun j i el x hj hi => ih j i el x hj hi (hc' el (List.mem_of_getElem? hj) x (List.mem_of_getElem? hi)))
    | sl1 => simp at hn; omega
    | sl2 => simp at hn; omega
  | cptr f hcell _ ih => intro hp; cases hp with | cptr hc => exact .cptr f hcell (fun i x hi => ih i x hi (hc x (List.mem_of_getElem? hi)))
  | ptr _ _ => intro hp; cases hp
  | own _ _ => intro hp; cases hp
  | eptr _ => intro hp; cases hp
  | mp _ _ => intro hp; cases hp
  | nilm => exact fun _ => .nilm
  | nili => exact fun _ => .nili
  | opq a => exact fun _ => .opq a
  | tp0 _ _ => intro hp; cases hp
  | tp1 _ _ => intro hp; cases hp
  | ifc _ ih => intro hp; cases hp with | ifc p => exact .ifc (ih p)
  | nilp => exact fun _ => .nilp
  | fn h1 h2 _ _ ih3 ih4 => intro hp; cases hp with | fn p1 p2 => exact .fn h1 h2 (fun i c hc v hv => ih3 i c hc v hv (p1 c (List.mem_of_getElem? hc))) (fun i c hc v hv => ih4 i c hc v hv (p2 c (List.mem_of_getElem? hc)))
  | nilf => exact fun _ => .nilf

def EntersF (P : Program) (f : FuncId) : Prop := ∃ fn c, P.funcs[f]? = some fn ∧ (fn.name == "runtime.NumGoroutine") = false ∧ fn.body = some c
def compV (i : Nat) : Value → Option Value
  | .tuple vs => vs[i]?
  | v => if i = 0 then some v else none
/-- A row that is the call's own, from block B on. -/
def OwnB (C : Cx) (B : Nat) (m : Nat → Nat) (w : World) (e : TypeId) (v : Value) : Prop :=
  v = nilSl ∨ ∃ (g n c size : Nat) (cur : Array Value), v = .slice (some ⟨g, 0, none⟩) n c ∧ B ≤ g ∧ w.heap[g]? = some (.cells cur e (0, 0)) ∧ n ≤ c ∧ c ≤ maxLen ∧
    (C.P.info? e).map (·.size) = some size ∧ 0 < size ∧ cur.size = c * size ∧ m g = n * size
def OwnR (C : Cx) (B : Nat) (m : Nat → Nat) (w : World) (own : Option (Nat × TypeId)) (v : Value) : Prop :=
  ∀ i e, own = some (i, e) → ∃ u, compV i v = some u ∧ OwnB C B m w e u
/-- A CONTRACT: the function f, called with such arguments, leaves all memory as it was and hands back such a result. -/
def ACall (C : Cx) (f : FuncId) (args : List AV) (res : AV) (own : Option (Nat × TypeId)) : Prop :=
  EntersF C.P f ∧ ∀ (m : Nat → Nat) (w : World) (vs : Array Value), C.GI m w → (∀ b, w.heap.size ≤ b → m b = 0) → vs.size = args.length →
    (∀ (i : Nat) (x : AV) (v : Value), args[i]? = some x → vs[i]? = some v → V (gh1 m) w x v) →
    Calls C.P f vs w fun e w' => ∃ v m', e = .returned v ∧ Below w.heap.size w w' ∧ (∀ b, b < w.heap.size → m' b = m b) ∧ (∀ b, w'.heap.size ≤ b → m' b = 0) ∧ V (gh1 m') w' res v ∧ OwnR C w.heap.size m' w' own v

/-- The same, where of the result only this much is told. -/
def ACallQ (C : Cx) (f : FuncId) (args : List AV) (Q : AV → Prop) (own : Option (Nat × TypeId)) : Prop :=
  EntersF C.P f ∧ ∀ (m : Nat → Nat) (w : World) (vs : Array Value), C.GI m w → (∀ b, w.heap.size ≤ b → m b = 0) → vs.size = args.length →
    (∀ (i : Nat) (x : AV) (v : Value), args[i]? = some x → vs[i]? = some v → V (gh1 m) w x v) →
    Calls C.P f vs w fun e w' => ∃ res v m', Q res ∧ e = .returned v ∧ Below w.heap.size w w' ∧ (∀ b, b < w.heap.size → m' b = m b) ∧ (∀ b, w'.heap.size ≤ b → m' b = 0) ∧ V (gh1 m') w' res v ∧ OwnR C w.heap.size m' w' own v
theorem ACall.q {C : Cx} {f : FuncId} {args : List AV} {res : AV} {own : Option (Nat × TypeId)} (h : ACall C f args res own) : ACallQ C f args (· = res) own :=
  ⟨h.1, fun m w vs h1 h2 h3 h4 => (h.2 m w vs h1 h2 h3 h4).mono (fun e w' ⟨v, m', a⟩ => ⟨res, v, m', rfl, a⟩)⟩
theorem ACallQ.mono {C : Cx} {f : FuncId} {args : List AV} {Q Q' : AV → Prop} {own : Option (Nat × TypeId)} (h : ACallQ C f args Q own) (hq : ∀ x, Q x → Q' x) : ACallQ C f args Q' own :=
  ⟨h.1, fun m w vs h1 h2 h3 h4 => (h.2 m w vs h1 h2 h3 h4).mono (fun e w' ⟨res, v, m', a, b⟩ => ⟨res, v, m', hq _ a, b⟩)⟩
def withTok (i t : Nat) : AV → AV
  | .tup vs => .tup (match vs[i]? with | some (.sl _ xs) => vs.set i (.sl t xs) | _ => vs)
  | .sl _ xs => if i = 0 then .sl t xs else .sl 0 xs
  | x => x
def callSt (s : AS) (d : Option Nat) (res : AV) : Option (Nat × TypeId) → AS
  | none => s.put d res
  | some (i, e) => (s.tok e).put d (withTok i s.next res)

def Fr (r : Option Nat) : Fence := { Fence.wide with round := r }
theorem callsIn_Fr {r : Option Nat} {n : Nat} {P : Program} {f : FuncId} {args : Array Value} {w : World} {R : Ending → World → Prop} (h : Calls P f args w R) : CallsIn (Fr r) n P f args w R :=
  (callsIn_wide (n := n)).2 h

section
variable {C : Cx} {E : Env} {G : Gh} {s : AS} {a : Act} {w : World} {P : Program}
theorem call_okQ (h : Rel C E G s a w) {d : Option Nat} (hd : ∀ t, d = some t → t < s.N) {f : FuncId} {xs : List AV} {vs : Array Value} (hl : vs.size = xs.length) (hV : ∀ (i : Nat) (x : AV) (v : Value), xs[i]? = some x → vs[i]? = some v → V G w x v)
    (hp : ∀ x ∈ xs, Pu (er x)) {Q : AV → Prop} {own : Option (Nat × TypeId)} (hc : ACallQ C f (xs.map er) Q own) :
    Calls C.P f vs w fun e w' => ∃ v res, Q res ∧ e = .returned v ∧ ∃ G', Rel C E G' (callSt s d res own) (a.put d v) w' := by
  have hgi : C.GI G.m w := C.st _ _ _ _ h.be h.m0 h.gi
  refine (hc.2 G.m w vs hgi h.mz (by simpa using hl) (fun i x v hx hv => ?_)).mono ?_
  · rw [List.getElem?_map] at hx
    obtain ⟨y, hy, rfl⟩ := Option.map_eq_some_iff.1 hx
    exact (hV i y v hy hv).er.pure h.t1 (hp y (List.mem_of_getElem? hy))
  · rintro e w' ⟨res, v, m', hQ, rfl, hb, hm, hz, hres, hown⟩
    refine ⟨v, res, hQ, rfl, ?_⟩
    have hgrow := h.grow (m' := m') hb hm hz
    have mo1 : Mo (gh1 m') w' { G with m := m' } w' := ⟨fun _ _ _ a b => ⟨a, b⟩, fun i b e => by simp [gh1] at e, (fun t v e => by
      have e : tk1 t = some v := e
      unfold tk1 at e
      split at e
      · rename_i ht; subst ht; rw [← e]; exact h.t1
      · cases e), fun _ h => h, fun _ h => h⟩
    cases own with
    | none => exact ⟨_, hgrow.put hd (hres.mono mo1)⟩
    | some q =>
      obtain ⟨i, e⟩ := q
      obtain ⟨u, hu, hob⟩ := hown i e rfl
      have hownT : OwnT C E { G with m := m' } w' e u := by
        rcases hob with h0 | ⟨g, n, c, size, cur, e1, e2, e3, e4, e5, e6, e7, e8, e9⟩
        · exact .inl h0
        · exact .inr ⟨g, n, c, size, cur, e1, Nat.le_trans h.be.size e2, e3, e4, e5, e6, e7, e8, e9, fun j hj => by have := h.lt (i := j) hj; omega⟩
      have hadd := hgrow.addTok (e := .ty e) hownT (fun t e' x g ht hx hg hxg => by
        · have := h.own_lt ht hx hxg
          rcases hob with h0 | ⟨g2, n2, c2, size2, cur2, e1, e2, _⟩
          · rw [h0] at hg; cases hg
          · rw [e1] at hg
            have : g2 = g := Option.some.inj hg
            omega)
      have hnone := h.fr s.next (Nat.le_refl _)
      have mo2 : Mo (gh1 m') w' { m := m', blk := G.blk, tk := fun t => if t = s.next then some u else G.tk t } w' := mo1.trans ⟨fun _ _ _ a b => ⟨a, b⟩, fun _ _ e => e, fun t u' e => by
        show (if t = s.next then some u else G.tk t) = some u'
        rw [if_neg (fun e' => by rw [e', hnone] at e; cases e)]; exact e, fun _ h => h, fun _ h => h⟩
      have htk : (fun t => if t = s.next then some u else G.tk t) s.next = some u := if_pos rfl
      refine ⟨_, hadd.put (d := d) hd ?_⟩
      have hr2 := hres.mono mo2
      unfold withTok
      split
      · rename_i ws
        obtain ⟨us, rfl, hl2, hV2⟩ := hr2.tup_inv
        split
        · rename_i t xs' hi
          refine .tup (by simpa using hl2) (fun j c hj v hv => ?_)
          by_cases hji : j = i
          · subst hji
            have hlt := (List.getElem?_eq_some_iff.1 hi).1
            rw [List.getElem?_set_self hlt] at hj
            cases hj
            have huv : v = u := by
              have : us[j]? = some u := hu
              rw [this] at hv; exact (Option.some.inj hv).symm
            subst huv
            exact (hV2 j _ hi v hv).retok (by have := h.ne; omega) htk
          · rw [List.getElem?_set_ne (fun e => hji e.symm)] at hj
            exact hV2 j c hj v hv
        · exact hr2
      · split
        · rename_i hi
          subst hi
          have huv : v = u := by
            have hnt : ∀ us, v ≠ .tuple us := by rintro us rfl; cases hr2
            cases v <;> first | exact absurd rfl (hnt _) | (simpa [compV] using hu)
          subst huv
          exact hr2.retok (by have := h.ne; omega) htk
        · exact hr2.er1
      · exact hr2
theorem call_ok (h : Rel C E G s a w) {d : Option Nat} (hd : ∀ t, d = some t → t < s.N) {f : FuncId} {xs : List AV} {vs : Array Value} (hl : vs.size = xs.length) (hV : ∀ (i : Nat) (x : AV) (v : Value), xs[i]? = some x → vs[i]? = some v → V G w x v)
    (hp : ∀ x ∈ xs, Pu (er x)) {res : AV} {own : Option (Nat × TypeId)} (hc : ACall C f (xs.map er) res own) :
    Calls C.P f vs w fun e w' => ∃ v, e = .returned v ∧ ∃ G', Rel C E G' (callSt s d res own) (a.put d v) w' :=
  (call_okQ h hd hl hV hp hc.q).mono (fun e w' ⟨v, res', hr, he, hG⟩ => ⟨v, he, by subst hr; exact hG⟩)
end
end Go.Proofs.AL
namespace Go.Proofs.AL
open Go Go.RowKit
set_option linter.unusedSimpArgs false
set_option linter.unusedVariables false

/-! ## One operation of a region -/
inductive Lab where
  | eff (e : Eff)
  | skip
  | call (own : Bool)

def guardOf (ops : Array Oper) (s : AS) (o : Oper) : Option Bool :=
  match o.guard with
  | none => some true
  | some (j, want) => match (ops[j]?).bind (·.dst) with
    | none => none
    | some t => match s.tm t with
      | some (.bool b) => some (b == want)
      | some (.tup []) => some false
      | _ => none
def dstOk (s : AS) (o : Oper) : Bool := match o.dst with
  | none => true
  | some d => decide (d < s.N)
theorem dstOk_spec {s : AS} {o : Oper} (h : dstOk s o = true) : ∀ t, o.dst = some t → t < s.N := by
  intro t ht
  unfold dstOk at h
  rw [ht] at h
  exact of_decide_eq_true h

inductive Stp (C : Cx) (ops : Array Oper) (o : Oper) : Lab → AS → AS → Prop
  | eff {s : AS} {e : Eff} : guardOf ops s o = some true → dstOk s o = true → ev C.P s o.op = some e → Stp C ops o (.eff e) s (apEff s o.dst e)
  | skip {s : AS} : guardOf ops s o = some false → dstOk s o = true → Stp C ops o .skip s (s.put o.dst (.tup []))
  | call {s : AS} {c : Call} {fo : Operand} {g : FuncId} {xs : List AV} {res : AV} {own : Option (Nat × TypeId)} : guardOf ops s o = some true → dstOk s o = true → o.op = .call c → c.callee = .value fo →
      evalO s fo = some (.fn (.func g) [] []) → evalL s c.args.toList = some xs → (∀ x ∈ xs, Pu (er x)) → ACall C g (xs.map er) res own → Stp C ops o (.call own.isSome) s (callSt s o.dst res own)

section
variable {C : Cx} {E : Env} {G : Gh} {s : AS} {a : Act} {w : World} {ops : Array Oper} {o : Oper}
theorem guard_ok (h : Rel C E G s a w) {b : Bool} (hg : guardOf ops s o = some b) : Region.wanted o (yielded ops a.tmps) = b := by
  unfold guardOf at hg
  unfold Region.wanted
  cases ho : o.guard with
  | none => rw [ho] at hg; cases hg; rfl
  | some q =>
    obtain ⟨j, want⟩ := q
    rw [ho] at hg
    dsimp only at hg ⊢
    cases hj : (ops[j]?).bind (·.dst) with
    | none => rw [hj] at hg; cases hg
    | some t =>
      rw [hj] at hg
      dsimp only at hg
      split at hg
      · rename_i b' hb'
        cases hg
        obtain ⟨v, h1, h2⟩ := h.tm t _ hb'
        cases h2
        have h1 := slot_tmp h1 (.inr (fun _ e => by cases e))
        have : yielded ops a.tmps j = some b' := by unfold yielded; rw [hj]; simp [h1]
        rw [this]
        cases b' <;> cases want <;> rfl
      · rename_i hb'
        cases hg
        obtain ⟨v, h1, h2⟩ := h.tm t _ hb'
        cases h2
        have h1 := slot_tmp h1 (.inr (fun _ e => by cases e))
        have : yielded ops a.tmps j = none := by unfold yielded; rw [hj]; simp [h1]
        rw [this]
        rfl
      · cases hg
theorem ev_notDefer {P : Program} {s : AS} {op : Op} {e : Eff} (h : ev P s op = some e) : ∀ c, op ≠ .defer c := by
  rintro c rfl; cases h

theorem Stp.ok (h : Rel C E G s a w) {r : Option Nat} {n : Nat} {Q : Exit → Act → World → Prop} {i : Nat} (hi : ops[i]? = some o) {lab : Lab} {s' : AS} (hs : Stp C ops o lab s s') {K : Act → World → Prop}
    (hK : ∀ G' a' w', Rel C E G' s' a' w' → K a' w') : wpOpIn (Fr r) n C.P ops Q i K a w := by
  unfold wpOpIn
  rw [hi]
  dsimp only
  cases hs with
  | eff hg hd he =>
    rw [if_pos (guard_ok h hg)]
    refine ⟨fun _ _ => trivial, ?_⟩
    rw [Oper.semAt_eq _ _ _ (ev_notDefer he)]
    obtain ⟨w', G', v, hr, hrel⟩ := ev_ok h (dstOk_spec hd) he
    rcases hr with hr | ⟨hr, rfl⟩
    · rw [hr]; exact hK _ _ _ hrel
    · rw [hr]; exact hK _ _ _ hrel
  | skip hg hd =>
    rw [if_neg (by rw [guard_ok h hg]; decide)]
    exact ⟨fun _ _ => trivial, hK _ _ _ (h.put (dstOk_spec hd) (.tup rfl (fun i c hc => by simp at hc)))⟩
  | call hg hd ho hfo hev hargs hp hc =>
    rename_i c fo g xs res own
    rw [if_pos (guard_ok h hg)]
    refine ⟨fun _ _ => trivial, ?_⟩
    rw [Oper.semAt_eq _ _ _ (by rw [ho]; rintro c' e; cases e)]
    have hf : a.eval fo = .func (.func g) #[] #[] := by
      have := h.eval hev
      generalize a.eval fo = v at this
      cases this with
      | fn h1 h2 _ _ =>
        congr 1
        · exact (Array.eq_empty_of_size_eq_zero h1.symm)
        · exact (Array.eq_empty_of_size_eq_zero h2.symm)
    obtain ⟨fn, cd, e1, e2, e3⟩ := hc.1
    obtain ⟨callee, args, ts⟩ := c
    dsimp only at hfo hargs
    subst hfo
    have hrun : (execOp a.eval o).run C.P w = .ok (.enter g (args.map a.eval)) w := by
      unfold execOp
      rw [ho]
      simp only [resolve, Deferred.ofValue, hf, Sem.run_bind, Sem.run_pure, Result.andThen, invoke, callFunc, program, Sem.run, e1, e2, e3]
      simp
    rw [hrun]
    obtain ⟨k1, k2⟩ := evalL_ok h hargs
    have hcall := call_ok h (dstOk_spec hd) (vs := args.map a.eval) (xs := xs) (by simpa using k1.symm) (fun i x v hx hv => by
      rw [Array.getElem?_map] at hv
      obtain ⟨y, hy, rfl⟩ := Option.map_eq_some_iff.1 hv
      exact k2 i x y hx (by simpa using hy)) hp hc
    refine ⟨(fun hdep => by cases hdep), callsIn_Fr (hcall.mono ?_)⟩
    rintro e w' ⟨v, rfl, G', hrel⟩
    exact hK _ _ _ hrel
end
end Go.Proofs.AL
