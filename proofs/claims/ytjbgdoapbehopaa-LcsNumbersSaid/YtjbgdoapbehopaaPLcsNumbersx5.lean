/- Laid by a program of this session out of the seat's translation. -/
import Derived.Test.YtjbgdoapbehopaaPLcsNumbersx0
import Derived.Test.YtjbgdoapbehopaaPLcsNumbersx1
import Derived.Test.YtjbgdoapbehopaaPLcsNumbersx4
namespace Go.Proofs.Ytjbgdoapbehopaa.PLcsNumbers
open Go.RowKit Go.Proofs.YtjbgdoapbehopaaW.PrintWords Go.Proofs.YtjbgdoapbehopaaW.PrintLast Go.Proofs.YtjbgdoapbehopaaW.PrintMore
attribute [local go_sem] max2_int min2_int max_two min_two max_three min_three max_four min_four   -- for this text's walks alone
set_option linter.unusedVariables false
set_option linter.unusedSimpArgs false

/-! ### lcs_Numbers: function 16 -/
def lcs_Numbers.has (l : List ByteArray) (s : ByteArray) : Bool := l.any (fun t => t.data.toList == s.data.toList)
def lcs_Numbers.ix (l : List ByteArray) (s : ByteArray) : Nat := l.findIdx (fun t => t.data.toList == s.data.toList)
mutual
def lcs_Numbers.l0 : Nat → List (List ByteArray) → List ByteArray → List (List Int) → Int → Option ((List (List Int)))
  | 0, _, _, _, _ => none
  | k + 1, x0, x3, x4, x15 => if x15 < (x0.length : Int) then (if 0 ≤ x15 then (lcs_Numbers.l1 k x0 x3 x4 x15 ([] : List Int) 0) else (none)) else (some x4)
def lcs_Numbers.l1 : Nat → List (List ByteArray) → List ByteArray → List (List Int) → Int → List Int → Int → Option ((List (List Int)))
  | 0, _, _, _, _, _, _ => none
  | k + 1, x0, x3, x4, x15, x7, x21 => if x21 < ((rd_L4 x0 x15).length : Int) then (if 0 ≤ x21 then (if (rdOf ByteArray.empty (rd_L4 x0 x15) x21).size ≤ 140737488355328 then (if x7.length < 17592186044416 then (if x3.length < 17592186044416 then (if lcs_Numbers.has x3 (rdOf ByteArray.empty (rd_L4 x0 x15) x21) = true then (lcs_Numbers.l1 k x0 x3 x4 x15 (x7 ++ [(lcs_Numbers.ix x3 (rdOf ByteArray.empty (rd_L4 x0 x15) x21) : Int)]) (wrap64 (x21 + 1))) else (lcs_Numbers.l1 k x0 (x3 ++ [rdOf ByteArray.empty (rd_L4 x0 x15) x21]) x4 x15 (x7 ++ [(x3.length : Int)]) (wrap64 (x21 + 1)))) else (none)) else (none)) else (none)) else (none)) else (if x4.length < 5864062014805 then (lcs_Numbers.l0 k x0 x3 (x4 ++ [x7]) (wrap64 (x15 + 1))) else (none))
end
def lcs_Numbers.f (k : Nat) (l0 : List (List ByteArray)) : Option ((List (List Int))) := lcs_Numbers.l0 k l0 ([] : List ByteArray) ([] : List (List Int)) 0
theorem lcs_Numbers.mono_l : ∀ k, (∀ y0 y1 y2 y3, LeO (lcs_Numbers.l0 k y0 y1 y2 y3) (lcs_Numbers.l0 (k + 1) y0 y1 y2 y3)) ∧ (∀ y0 y1 y2 y3 y4 y5, LeO (lcs_Numbers.l1 k y0 y1 y2 y3 y4 y5) (lcs_Numbers.l1 (k + 1) y0 y1 y2 y3 y4 y5))
  | 0 => ⟨fun _ _ _ _ r h => by simp [lcs_Numbers.l0] at h, fun _ _ _ _ _ _ r h => by simp [lcs_Numbers.l1] at h⟩
  | k + 1 => by
    obtain ⟨ih0, ih1⟩ := lcs_Numbers.mono_l k
    refine ⟨?_, ?_⟩
    · intro y0 y1 y2 y3
      unfold lcs_Numbers.l0
      repeat' first
      | (with_reducible exact ih0 _ _ _ _)
      | (with_reducible exact ih1 _ _ _ _ _ _)
      | (with_reducible exact LeO.refl _)
      | (with_reducible exact LeO.none _)
      | (with_reducible refine LeO.ite ?_ ?_)
    · intro y0 y1 y2 y3 y4 y5
      unfold lcs_Numbers.l1
      repeat' first
      | (with_reducible exact ih0 _ _ _ _)
      | (with_reducible exact ih1 _ _ _ _ _ _)
      | (with_reducible exact LeO.refl _)
      | (with_reducible exact LeO.none _)
      | (with_reducible refine LeO.ite ?_ ?_)
theorem lcs_Numbers.mono : ∀ a0 k, LeO (lcs_Numbers.f k a0) (lcs_Numbers.f (k + 1) a0) := fun _ k => (lcs_Numbers.mono_l k).1 _ _ _ _

/-! the map, as the list of what was seen -/
def lcs_Numbers.Is (D : DataW Unit) (l : List ByteArray) : Prop :=
  Maps.Tidy D ∧ Maps.size D = l.length ∧ ∀ s : ByteArray, Maps.has D (.string s.data.toList) = lcs_Numbers.has l s ∧ (lcs_Numbers.has l s = true → D.atKey (.string s.data.toList) (.lit (.int .i64 0)) = .lit (.int .i64 (lcs_Numbers.ix l s)))
theorem lcs_Numbers.is_nil : lcs_Numbers.Is (.map []) [] := ⟨Maps.tidy_empty, rfl, fun s => ⟨rfl, fun h => by simp [lcs_Numbers.has] at h⟩⟩
theorem lcs_Numbers.is_put {D : DataW Unit} {l : List ByteArray} {s : ByteArray} (h : lcs_Numbers.Is D l) (hn : lcs_Numbers.has l s = false) :
    lcs_Numbers.Is (D.put (.string s.data.toList) (.lit (.int .i64 (l.length : Int)))) (l ++ [s]) := by
  obtain ⟨h1, h2, h3⟩ := h
  have hk : WideAt.IsKeyLit (.string s.data.toList) := trivial
  refine ⟨h1.put hk _, ?_, fun t => ?_⟩
  · rw [Maps.size_put h1, (h3 s).1, hn, h2]; simp
  · by_cases e : t.data.toList = s.data.toList
    · rw [e, Maps.has_put_same h1.isMap hk, Maps.atKey_put_same h1.isMap hk]
      have hn' : lcs_Numbers.has l t = false := by rw [← hn]; simp [lcs_Numbers.has, e]
      refine ⟨by simp [lcs_Numbers.has, e], fun _ => ?_⟩
      have : lcs_Numbers.ix (l ++ [s]) t = l.length := by
        unfold lcs_Numbers.ix
        rw [List.findIdx_append, if_neg]
        · simp [List.findIdx_cons, e]
        · unfold lcs_Numbers.has at hn'
          simp only [List.any_eq_false] at hn'
          intro hc
          obtain ⟨x, hx, hp⟩ := List.findIdx_lt_length.1 hc
          exact hn' x hx hp
      rw [this]
    · have e' : (Lit.string t.data.toList) ≠ .string s.data.toList := fun h => e (by injection h)
      rw [Maps.has_put_other e', Maps.atKey_put_other e', (h3 t).1]
      have hb : (s.data.toList == t.data.toList) = false := beq_eq_false_iff_ne.2 (Ne.symm e)
      have hh : lcs_Numbers.has (l ++ [s]) t = lcs_Numbers.has l t := by
        unfold lcs_Numbers.has
        rw [List.any_append, List.any_cons, List.any_nil, hb, Bool.or_false, Bool.or_false]
      refine ⟨hh.symm, fun ht => ?_⟩
      have ht' : lcs_Numbers.has l t = true := hh ▸ ht
      rw [(h3 t).2 ht']
      have : lcs_Numbers.ix (l ++ [s]) t = lcs_Numbers.ix l t := by
        unfold lcs_Numbers.ix
        rw [List.findIdx_append, if_pos]
        unfold lcs_Numbers.has at ht'
        rw [List.any_eq_true] at ht'
        exact List.findIdx_lt_length.2 ht'
      rw [this]

theorem lcs_Numbers.mapBlock {P : Program} {key : TypeId} {R : Value → Option (DataW Unit × List MemPlace)} {w : World} {b n : Nat} {D : DataW Unit} (h : w.ownsMap P key R b n D) : ∃ es clock, w.heap[b]? = some (.map es clock) := by
  obtain ⟨es, clock, hb, _⟩ := h
  exact ⟨es, clock, hb⟩
theorem lcs_Numbers.map_ne {P : Program} {key : TypeId} {R : Value → Option (DataW Unit × List MemPlace)} {w : World} {b n e : Nat} {D : DataW Unit} {v : Value} (h : w.ownsMap P key R b n D) (hv : ∀ k, v.ownBlock = some k → ∃ cells, w.heap[k]? = some (.cells cells e (0, 0))) : some b ≠ v.ownBlock := by
  obtain ⟨es, clock, hb⟩ := lcs_Numbers.mapBlock h
  intro he
  obtain ⟨cells, hc⟩ := hv b he.symm
  rw [hb] at hc
  cases hc
theorem lcs_Numbers.row_keeps {α : Type} {d : Kd α} {e : Nat} {w w1 : World} {base : Nat} {ok : Nat → Prop} {v : Value} {xs : List α} {P : Program} {key : TypeId} {R : Value → Option (DataW Unit × List MemPlace)} {b n : Nat} {D : DataW Unit}
    (h : d.R e w base ok v xs) (hm : w.ownsMap P key R b n D) (hg : w.grownBy w1 (some b)) : d.R e w1 base ok v xs := by
  obtain ⟨es, clock, hb⟩ := lcs_Numbers.mapBlock hm
  refine Kd.R_mono (Kd.R_move (Kd.R_bound h) (fun k hk => hg.block k hk.2.2.1 (fun he => ?_))) (fun _ hk => hk.1)
  obtain ⟨_, _, _, q, hq, cells, hc⟩ := hk
  injection he with he
  subst he
  rw [hb] at hc
  cases hc
theorem lcs_Numbers.rows_keep {α : Type} {d : Kd α} {e : Nat} {w w1 : World} {base : Nat} {ok : Nat → Prop} {v : Value} {xs : List α} {P : Program} {key : TypeId} {R : Value → Option (DataW Unit × List MemPlace)} {b n : Nat} {D : DataW Unit}
    (h : Kd.S d e w base ok v xs) (hm : w.ownsMap P key R b n D) (hg : w.grownBy w1 (some b)) : Kd.S d e w1 base ok v xs := by
  obtain ⟨f, h⟩ := h
  exact ⟨f, lcs_Numbers.row_keeps h hm hg⟩
def lcs_Numbers.At (w : World) (b : Nat) (l : List ByteArray) : Prop := ∃ D : DataW Unit, w.ownsMap Try.prog 9 (plainElem Try.prog 3) b l.length D ∧ lcs_Numbers.Is D l
theorem lcs_Numbers.At.grown {w w1 : World} {b : Nat} {l : List ByteArray} {row : Option Nat} (h : lcs_Numbers.At w b l) (hg : w.grownBy w1 row) (hne : some b ≠ row) : lcs_Numbers.At w1 b l := by
  obtain ⟨D, ho, hi⟩ := h
  exact ⟨D, ho.kept hg hne, hi⟩
theorem lcs_Numbers.At.alloc {w : World} {b : Nat} {l : List ByteArray} (h : lcs_Numbers.At w b l) (o : Obj) : lcs_Numbers.At (w.alloc o) b l := by
  obtain ⟨D, ho, hi⟩ := h
  exact ⟨D, ho.alloc o, hi⟩
theorem lcs_Numbers.law : Maps.Keyed Try.prog 9 := Maps.string_keyed Try.underlying9
theorem lcs_Numbers.zero (w : World) : (zeroValue 3).run Try.prog w = .ok (.int .i64 0) w := by kernel_rfl

set_option maxHeartbeats 8000000 in
set_option maxRecDepth 100000 in
theorem lcs_Numbers.calls (k : Nat) (A0 : Option Addr) (c0 : Nat) (l0 : List (List ByteArray)) (r : List (List Int)) (w : World) (hr0 : Kd.C (Kd.slice 9 Kd.string) w A0 l0.length l0) (hc0 : l0.length ≤ c0) (h : lcs_Numbers.f k l0 = some r) :
    Calls Try.prog 16 #[.slice A0 l0.length c0] w fun e w' => ∃ v0_ : Value, e = .returned (v0_) ∧ Kd.S (Kd.slice 3 (Kd.int .i64)) 22 w' w.heap.size (fun _ => True) v0_ r ∧ Below w.heap.size w w' := by
  have HR0 := Zm hr0
  have HC0 := Zm hc0
  clear hr0 hc0
  have hmm := @run_makeMap Try.prog
  have H' := Zm (show lcs_Numbers.l0 k l0 ([] : List ByteArray) ([] : List (List Int)) 0 = some r from h)
  clear h
  go_enter Try.func16, Try.ntmps16
  go_wp2
  go_loopg [4, 15] k (fun kq v4 v15 w' => ∃ (x3 : List ByteArray) (x4 : List (List Int)) (x15 : Int), v15 = .int .i64 x15 ∧ Aside0 (lcs_Numbers.l0 kq l0 x3 x4 x15 = some r) ∧ Aside0 (kq ≤ k) ∧ Aside0 (lcs_Numbers.At w' w.heap.size x3) ∧ Aside0 (Kd.S (Kd.slice 3 (Kd.int .i64)) 22 w' w.heap.size (fun _ => True) v4 x4) ∧ Aside0 (Below w.heap.size w w'))
  case atStart => exact ⟨[], [], 0, rfl, H', ⟨Nat.le_refl _⟩, ⟨⟨_, World.ownsMap_made _ _ _ _, lcs_Numbers.is_nil⟩⟩, ⟨Kd.S_nil _ _ _ _ _⟩, ⟨(Below.refl _ _).alloc (Nat.le_refl _) _⟩⟩
  case round =>
    clear H' hmm
    obtain ⟨x3, x4, x15, rfl, HA, HK1, HM, HO4, HB⟩ := hrel
    cases gk with
    | zero => exact absurd HA.out (by simp [lcs_Numbers.l0])
    | succ k1 =>
      have H := HA.out
      clear HA
      simp only [lcs_Numbers.l0] at H
      by_cases c1 : x15 < (l0.length : Int)
      · rw [if_pos c1] at H
        by_cases c2 : 0 ≤ x15
        · rw [if_pos c2] at H
          have H' := Zm H
          clear H
          obtain ⟨ad, A1, cc1, e1, hx1, hl1, hi1⟩ := at_L4 HR0.out x15 c2 c1
          cases e1
          replace hx1 := (HB.out.cell (World.block_lt_of_cell? w _ hx1)).trans hx1
          have HR1 := Zm hi1
          clear hi1 hl1
          have c1b : decide (x15 < (l0.length : Int)) = true := decide_eq_true c1
          have c2b : decide (0 ≤ x15) = true := decide_eq_true c2
          replace c1 := eq_true c1
          replace c2 := eq_true c2
          go_wp2
          go_loopg [7, 21] k1 (fun kq v7 v21 w' => ∃ (x3' : List ByteArray) (x7 : List Int) (x21 : Int), v21 = .int .i64 x21 ∧ Aside0 (lcs_Numbers.l1 kq l0 x3' x4 x15 x7 x21 = some r) ∧ Aside0 (kq ≤ k1) ∧ Aside0 (lcs_Numbers.At w' w.heap.size x3') ∧ Aside0 (Kd.S (Kd.slice 3 (Kd.int .i64)) 22 w' w.heap.size (fun k_ => some k_ ≠ (v7 : Value).ownBlock) u4 x4) ∧ Aside0 (Kd.R (Kd.int .i64) 3 w' w.heap.size (fun _ => True) v7 x7) ∧ Aside0 (Below w.heap.size w w'))
          case atStart => exact ⟨x3, [], 0, rfl, H', ⟨Nat.le_refl _⟩, ⟨HM.out⟩, ⟨Kd.S_mono HO4.out (fun _ _ => by simp [Value.ownBlock])⟩, ⟨Kd.R_nil _ _ _ _ _⟩, ⟨HB.out⟩⟩
          case round =>
            clear H' hx1
            obtain ⟨x3, x7, x21, rfl, HA, HK2, HM, HO4, HO7, HB⟩ := hrel
            cases gk with
            | zero => exact absurd HA.out (by simp [lcs_Numbers.l1])
            | succ k2 =>
              have H := HA.out
              clear HA
              simp only [lcs_Numbers.l1] at H
              by_cases c3 : x21 < ((rd_L4 l0 x15).length : Int)
              · rw [if_pos c3] at H
                by_cases c4 : 0 ≤ x21
                · rw [if_pos c4] at H
                  obtain ⟨ad2, e2, hx2⟩ := Kd.at_string HR1.out x21 c4 c3
                  cases e2
                  replace hx2 := (HB.out.cell (World.block_lt_of_cell? w _ hx2)).trans hx2
                  generalize rdOf ByteArray.empty (rd_L4 l0 x15) x21 = s at H hx2
                  by_cases c5 : s.size ≤ 140737488355328
                  · rw [if_pos c5] at H
                    by_cases c6 : x7.length < 17592186044416
                    · rw [if_pos c6] at H
                      by_cases c7 : x3.length < 17592186044416
                      · rw [if_pos c7] at H
                        obtain ⟨D, hown, hD⟩ := HM.out
                        have hkey : keyOf Try.prog 9 (.string s) = some (.string s.data.toList) := Go.WideMaps.keyOf_string_mk Try.underlying9 (by unfold maxLen; omega)
                        have HS := Zm hD
                        have LM6 := Zm c6
                        have LM7 := Zm c7
                        clear hD c6 c7 c5
                        have c3b : decide (x21 < ((rd_L4 l0 x15).length : Int)) = true := decide_eq_true c3
                        have c4b : decide (0 ≤ x21) = true := decide_eq_true c4
                        replace c3 := eq_true c3
                        replace c4 := eq_true c4
                        by_cases c8 : lcs_Numbers.has x3 s = true
                        · rw [if_pos c8] at H
                          have hh : Maps.has D (.string s.data.toList) = true := (HS.out.2.2 s).1.trans c8
                          have hat0 := Zm ((HS.out.2.2 s).2 c8)
                          clear c8
                          have H' := Zm H
                          clear H
                          go_wp2_with (first
                            | (at_lookup; refine wpList_lookup_own_ok_int _ rfl _ _ 43 rfl 9 3 .i64 lcs_Numbers.law Try.underlying43 Try.underlying3 (lcs_Numbers.zero _) w.heap.size _ D rfl hown _ _ rfl hkey ?_; intro c hat hwc; obtain rfl : (lcs_Numbers.ix x3 s : Int) = c := (by have h_ := hat0.out.symm.trans hat; injection h_ with h_; injection h_); clear hat hwc)
                            | ((with_reducible refine gate_builtin (b := .append) (xs := #[.tmp 38, .tmp 40]) rfl ?_); at_builtin; refine Kd.R_append (Kd.int .i64) (w0 := w) w.heap.size rfl (.tmp 38) (.tmp 40) 22 3 (.int .i64 0) 8 rfl Try.underlying22 info3 rfl (by decide) (by omega) u7 x7 (lcs_Numbers.ix x3 s : Int) [.int .i64 (lcs_Numbers.ix x3 s : Int)] (fun _ => True) (fun _ => False) rfl rfl rfl (fun _ hk => hk.elim) (fun _ _ => trivial) HO7.out HB.out (below_size HB.out) (by have := LM6.out; omega) ?_; intro v7 w7 ho hb hg hat))
                          have hm1 := (show lcs_Numbers.At wr w.heap.size x3 from ⟨D, hown, HS.out⟩).alloc (.cells [Value.int .i64 (lcs_Numbers.ix x3 s : Int)].toArray 3)
                          have hne := lcs_Numbers.map_ne hown (Kd.R_typed HO7.out)
                          go_roundg k2
                          case measure => have := HK2.out; omega
                          case rel => exact ⟨x3, x7 ++ [(lcs_Numbers.ix x3 s : Int)], wrap64 (x21 + 1), rfl, H', ⟨by have := HK2.out; omega⟩, ⟨HM.out.grown hg hne⟩, ⟨Kd.S_mono (Kd.S_after (ok := fun _ => True) (Kd.S_mono HO4.out (fun _ hk => ⟨trivial, hk⟩)) hg hat) (fun _ hk => hk.2)⟩, ⟨ho⟩, ⟨hb⟩⟩
                        · rw [if_neg c8] at H
                          have c8' : lcs_Numbers.has x3 s = false := Bool.eq_false_iff.2 c8
                          have hh : Maps.has D (.string s.data.toList) = false := (HS.out.2.2 s).1.trans c8'
                          have HC8 := Zm c8'
                          have hsz := Zm HS.out.2.1
                          clear c8 c8'
                          have H' := Zm H
                          clear H
                          go_wp2_with (first
                            | (at_lookup; refine wpList_lookup_own_ok_int _ rfl _ _ 43 rfl 9 3 .i64 lcs_Numbers.law Try.underlying43 Try.underlying3 (lcs_Numbers.zero _) w.heap.size _ D rfl hown _ _ rfl hkey ?_; intro c hat hwc; clear hat hwc)
                            | (at_len; refine wpList_len_own _ rfl _ 43 rfl 9 3 Try.underlying43 _ w.heap.size _ D rfl hown ?_; rw [hsz.out])
                            | (at_mapUpdate; refine wpList_mapUpdate_own _ rfl _ _ _ 43 rfl 9 3 lcs_Numbers.law Try.underlying43 _ w.heap.size _ D rfl hown (by have := LM7.out; unfold maxLen; omega) _ _ _ rfl rfl hkey _ [] (plainElem_int Try.underlying3 (WalkArith.wf_i64 (by have := LM7.out; omega))) ?_; intro w1 hown1 hg1; have n4_ := Zm (lcs_Numbers.rows_keep HO4.out hown hg1); have n7_ := Zm (lcs_Numbers.row_keeps HO7.out hown hg1); have nb_ := Zm (HB.out.grown hg1 HB.out.size (fun k_ e_ => by cases e_; exact Nat.le_refl _)); clear HO4 HO7 HB; have HO4 := n4_; have HO7 := n7_; have HB := nb_; clear n4_ n7_ nb_)
                            | ((with_reducible refine gate_builtin (b := .append) (xs := #[.tmp 38, .tmp 40]) rfl ?_); at_builtin; refine Kd.R_append (Kd.int .i64) (w0 := w) w.heap.size rfl (.tmp 38) (.tmp 40) 22 3 (.int .i64 0) 8 rfl Try.underlying22 info3 rfl (by decide) (by omega) u7 x7 (x3.length : Int) [.int .i64 (x3.length : Int)] (fun _ => True) (fun _ => False) rfl rfl rfl (fun _ hk => hk.elim) (fun _ _ => trivial) HO7.out HB.out (below_size HB.out) (by have := LM6.out; omega) ?_; intro v7 w7 ho hb hg hat))
                          have hne := lcs_Numbers.map_ne hown1 (Kd.R_typed HO7.out)
                          have hm1 : lcs_Numbers.At w1 w.heap.size (x3 ++ [s]) := ⟨_, (by rw [List.length_append]; exact hown1), lcs_Numbers.is_put HS.out HC8.out⟩
                          go_roundg k2
                          case measure => have := HK2.out; omega
                          case rel => exact ⟨x3 ++ [s], x7 ++ [(x3.length : Int)], wrap64 (x21 + 1), rfl, H', ⟨by have := HK2.out; omega⟩, ⟨hm1.grown hg hne⟩, ⟨Kd.S_mono (Kd.S_after (ok := fun _ => True) (Kd.S_mono HO4.out (fun _ hk => ⟨trivial, hk⟩)) hg hat) (fun _ hk => hk.2)⟩, ⟨ho⟩, ⟨hb⟩⟩
                      · rw [if_neg c7] at H
                        exact absurd H (by simp)
                    · rw [if_neg c6] at H
                      exact absurd H (by simp)
                  · rw [if_neg c5] at H
                    exact absurd H (by simp)
                · rw [if_neg c4] at H
                  exact absurd H (by simp)
              · rw [if_neg c3] at H
                have c3b : decide (x21 < ((rd_L4 l0 x15).length : Int)) = false := decide_eq_false c3
                clear c3
                by_cases c6 : x4.length < 5864062014805
                · rw [if_pos c6] at H
                  have LM6 := Zm c6
                  clear c6
                  have H' := Zm H
                  clear H
                  have hty := Zm (Kd.S_typed HO4.out)
                  obtain ⟨Ao, co, eo⟩ := Kd.R_slice HO7.out
                  subst eo
                  go_wp2_with ((with_reducible refine gate_builtin (b := .append) (xs := #[.tmp 43, .tmp 45]) rfl ?_); at_builtin; refine Kd.S_append (Kd.slice 3 (Kd.int .i64)) (w0 := w) w.heap.size rfl (.tmp 43) (.tmp 45) 28 22 (.slice none 0 0) 24 rfl Try.underlying28 info22 rfl (by decide) (by omega) u4 x4 x7 [.slice Ao x7.length co] (fun _ => True) (fun k_ => some k_ = (.slice Ao x7.length co : Value).ownBlock) rfl rfl ?aP (fun k_ hk_ => ((Kd.R_mono (ok' := fun k_ => ((fun _ => True)) k_ ∧ some k_ ≠ (u4 : Value).ownBlock) (Kd.R_apart' (HO7.out) (Kd.S_typed HO4.out) (by decide)) (fun k_ hk => ⟨trivial, hk.2⟩))).1 k_ hk_.symm) (fun _ _ => trivial) (Kd.S_mono HO4.out (fun k_ hk => ⟨trivial, fun e_ => hk e_⟩)) HB.out (below_size HB.out) (by have := LM6.out; omega) ?_; (case aP => exact Kd.M_row (Kd.R_mono (Kd.R_tight rfl (Kd.R_mono (ok' := fun k_ => ((fun _ => True)) k_ ∧ some k_ ≠ (u4 : Value).ownBlock) (Kd.R_apart' (HO7.out) (Kd.S_typed HO4.out) (by decide)) (fun k_ hk => ⟨trivial, hk.2⟩))) (fun _ h_ => h_))); intro v4 w4 ho hb hg hat)
                  have hne : some w.heap.size ≠ (u4 : Value).ownBlock := by obtain ⟨D, hown, _⟩ := HM.out; exact lcs_Numbers.map_ne hown hty.out
                  go_roundg k2
                  case measure => have := HK1.out; have := HK2.out; omega
                  case rel => exact ⟨x3, x4 ++ [x7], wrap64 (x15 + 1), rfl, H', ⟨by have := HK1.out; have := HK2.out; omega⟩, ⟨HM.out.grown hg hne⟩, ⟨ho⟩, ⟨hb⟩⟩
                · rw [if_neg c6] at H
                  exact absurd H (by simp)
        · rw [if_neg c2] at H
          exact absurd H (by simp)
      · rw [if_neg c1] at H
        have c1b : decide (x15 < (l0.length : Int)) = false := decide_eq_false c1
        obtain rfl := Option.some.inj H
        go_wp2
        go_ret
        exact ⟨_, rfl, HO4.out, HB.out⟩

/-! ### lcs_Texts: function 18 -/
def lcs_Texts.f (k : Nat) (l0 : List ByteArray) (l1 : List ByteArray) : Option (List Int) := (lcs_Numbers.f k (([l0, l1] : List (List ByteArray)))).bind fun t164 => (if 0 < (t164.length : Int) then (if 1 < (t164.length : Int) then ((lcs_Match.f k (rd_L6 t164 0) (rd_L6 t164 1)).bind fun t169 => (some t169)) else (none)) else (none))
theorem lcs_Texts.mono : ∀ a0 a1 k, LeO (lcs_Texts.f k a0 a1) (lcs_Texts.f (k + 1) a0 a1) := by
  intro a0 a1 k
  unfold lcs_Texts.f
  repeat' first
      | (with_reducible exact lcs_Match.mono _ _ _)
      | (with_reducible exact lcs_Numbers.mono _ _)
      | (with_reducible exact LeO.refl _)
      | (with_reducible exact LeO.none _)
      | (with_reducible refine LeO.ite ?_ ?_)
      | (with_reducible refine LeO.bind ?_ (fun _ => ?_))
      | exact lcs_Match.mono _ _ _
      | exact lcs_Numbers.mono _ _
      | exact LeO.none _
      | refine LeO.ite ?_ ?_
      | refine LeO.bind ?_ (fun _ => ?_)
def lcs_Texts.T2 : Bool × List (List Nat × List Nat) := (true, [([], []), ([0], [0]), ([1], [1]), ([], []), ([3], [3]), ([4], [4]), ([2, 5], [2, 5]), ([6, 6, 0, 1, 2, 3, 4, 5, 6], [6])])
def lcs_Texts.B2 : List Nat := [0, 1, 3, 0, 8, 24, 63, 127]
theorem lcs_Texts.tab2 : rtab .any (opsOf Try.f18 2) = lcs_Texts.T2 := by kernel_rfl
theorem lcs_Texts.bits2 : waitsOk lcs_Texts.T2.2 lcs_Texts.B2 = true := by kernel_rfl
set_option maxHeartbeats 8000000 in
set_option maxRecDepth 100000 in
theorem lcs_Texts.calls (k : Nat) (P0_ : Nat → Prop) (A0 : Option Addr) (c0 : Nat) (l0 : List ByteArray) (P1_ : Nat → Prop) (A1 : Option Addr) (c1 : Nat) (l1 : List ByteArray) (r : List Int) (w : World) (hs0 : Kd.V Kd.string 9 w w.heap.size (fun k_ => P0_ k_) (.slice A0 l0.length c0) l0) (hs1 : Kd.V Kd.string 9 w w.heap.size (fun k_ => P1_ k_) (.slice A1 l1.length c1) l1) (h : lcs_Texts.f k l0 l1 = some r) :
    Calls Try.prog 18 #[.slice A0 l0.length c0, .slice A1 l1.length c1] w fun e w' => ∃ v0_ : Value, e = .returned (v0_) ∧ Kd.R (Kd.int .i64) 3 w' w.heap.size (fun k_ => (w.heap.size ≤ k_)) v0_ r ∧ Below w.heap.size w w' := by
  have HO0 := Zm (show Kd.V Kd.string 9 w w.heap.size (fun k_ => ((P0_ k_ ∨ P1_ k_) ∨ w.heap.size ≤ k_)) (.slice A0 l0.length c0) l0 from Kd.V_mono hs0 (fun k_ hk => .inl (.inl hk)))
  have HO1 := Zm (show Kd.V Kd.string 9 w w.heap.size (fun k_ => ((P0_ k_ ∨ P1_ k_) ∨ w.heap.size ≤ k_)) (.slice A1 l1.length c1) l1 from Kd.V_mono hs1 (fun k_ hk => .inl (.inr hk)))
  have HB := Zm (Below.refl w.heap.size w)
  have H : ((lcs_Numbers.f k (([l0, l1] : List (List ByteArray)))).bind fun t164 => (if 0 < (t164.length : Int) then (if 1 < (t164.length : Int) then ((lcs_Match.f k (rd_L6 t164 0) (rd_L6 t164 1)).bind fun t169 => (some t169)) else (none)) else (none))) = some r := h
  clear h
  obtain ⟨y161, hy161⟩ : ∃ y_ : List (List ByteArray), y_ = (([l0, l1] : List (List ByteArray))) := ⟨_, rfl⟩
  replace H : ((lcs_Numbers.f k y161).bind fun t164 => (if 0 < (t164.length : Int) then (if 1 < (t164.length : Int) then ((lcs_Match.f k (rd_L6 t164 0) (rd_L6 t164 1)).bind fun t169 => (some t169)) else (none)) else (none))) = some r := by first | (rw [hy161]; with_reducible exact H) | (have H2_ := (Option.bind_some _ _).symm.trans H; rw [hy161]; with_reducible exact H2_) | (have H2_ := (Option.bind_some _ _).symm.trans H; with_reducible exact H2_) | with_reducible exact H | (rw [hy161]; exact H) | exact H
  have Ny161 := Zm hy161
  clear hy161
  replace H := Option.bind_eq_some_iff.mp H
  obtain ⟨t164, A30, H⟩ := H
  replace H : (if 0 < (t164.length : Int) then (if 1 < (t164.length : Int) then ((lcs_Match.f k (rd_L6 t164 0) (rd_L6 t164 1)).bind fun t169 => (some t169)) else (none)) else (none)) = some r := H
  have A3 := Zm A30
  clear A30
  by_cases c4 : 0 < (t164.length : Int)
  · rw [if_pos c4] at H
    have c4b0 : decide (0 < (t164.length : Int)) = true := decide_eq_true c4
    have c4b1 : decide (0 < t164.length) = true := decide_eq_true (by omega)
    clear c4
    by_cases c5 : 1 < (t164.length : Int)
    · rw [if_pos c5] at H
      have c5b0 : decide (1 < (t164.length : Int)) = true := decide_eq_true c5
      have c5b1 : decide (1 < t164.length) = true := decide_eq_true (by omega)
      clear c5
      replace H := Option.bind_eq_some_iff.mp H
      obtain ⟨t169, A60, H⟩ := H
      replace H : (some t169) = some r := H
      have A6 := Zm A60
      clear A60
      obtain rfl := Option.some.inj H
      go_enter Try.func18, Try.ntmps18
      try go_wp2_with (first | ((with_reducible refine gate_dst (N := 8) rfl ?_); refine Kd.N_lit (Kd.slice 9 Kd.string) _ 27 ?hg (N' := 8) ?hd (xs := ([l0, l1] : List (List ByteArray))) (inner := [.slice A0 l0.length c0, .slice A1 l1.length c1]) (ok := (fun k_ => ((P0_ k_ ∨ P1_ k_) ∨ w.heap.size ≤ k_))) (okp := (fun k_ => ((P0_ k_ ∨ P1_ k_) ∨ w.heap.size ≤ k_))) ?hr ?hp (fun _ hk => hk) ((show ∀ k_, w.heap.size ≤ k_ → (fun k_ => ((P0_ k_ ∨ P1_ k_) ∨ w.heap.size ≤ k_)) k_ from fun k_ hk => (.inr (Nat.le_trans (below_size (by repeat (first | (with_reducible first | exact HB.out | apply below_alloc | apply Zd | apply below_drew1) | exact HB.out))) hk))) _ (Nat.le_refl _)) (Below.refl _ _) (Nat.le_refl _) (by simp) ?_; (case hd => rfl); (case hg => rfl); (case hr => first | (go_simp; done) | (go_simp; rfl)); (case hp => exact (Reps.one (show Kd.FK (Kd.slice 9 Kd.string) _ _ l0 [.slice A0 l0.length c0] from (Kd.FK_slice_mk (Kd.V_reads' (Kd.V_mono (ok' := (fun k_ => ((P0_ k_ ∨ P1_ k_) ∨ w.heap.size ≤ k_))) (HO0.out) (fun k_ hk => hk))).2.1 (Kd.V_F (Kd.V_mono (ok' := (fun k_ => ((P0_ k_ ∨ P1_ k_) ∨ w.heap.size ≤ k_))) (HO0.out) (fun k_ hk => hk))))) (Reps.one (show Kd.FK (Kd.slice 9 Kd.string) _ _ l1 [.slice A1 l1.length c1] from (Kd.FK_slice_mk (Kd.V_reads' (Kd.V_mono (ok' := (fun k_ => ((P0_ k_ ∨ P1_ k_) ∨ w.heap.size ≤ k_))) (HO1.out) (fun k_ hk => hk))).2.1 (Kd.V_F (Kd.V_mono (ok' := (fun k_ => ((P0_ k_ ∨ P1_ k_) ∨ w.heap.size ≤ k_))) (HO1.out) (fun k_ hk => hk))))) (Reps.none _ _)))); intro v162 w7 ho8 hb hg_ hnew_; clear hg_ hnew_; (first | rw [← Ny161.out] at ho8 | (simp only [Int.reduceToNat] at ho8; rw [← Ny161.out] at ho8)); have n0_ := Zm (Kd.V_elder' (by (with_reducible repeat (first | apply Kd.V_alloc | apply Kd.V_drewN | apply Kd.V_drew)); exact HO0.out) (by first | exact Kd.N_base ho8 | exact Kd.S_base ho8 | exact Kd.R_base ho8) hb); have n1_ := Zm (Kd.V_elder' (by (with_reducible repeat (first | apply Kd.V_alloc | apply Kd.V_drewN | apply Kd.V_drew)); exact HO1.out) (by first | exact Kd.N_base ho8 | exact Kd.S_base ho8 | exact Kd.R_base ho8) hb); have n2_ := Zm (Kd.N_lower ho8 (below_size (by repeat (first | (with_reducible first | exact HB.out | apply below_alloc | apply Zd | apply below_drew1) | exact HB.out)))); have n3_ := Zm (below_step (by repeat (first | (with_reducible first | exact HB.out | apply below_alloc | apply Zd | apply below_drew1) | exact HB.out)) hb); clear HO0; clear HO1; clear HB; have HO0 := n0_; have HO1 := n1_; have HO163 := n2_; have HB := n3_; clear n0_ n1_ n2_ n3_; clear hb ho8; obtain ⟨Ao9, co9, eo9⟩ := Kd.N_slice HO163.out; subst eo9) | ((with_reducible refine gate_callee (f := 16) rfl ?_); refine goesL_ (some 9) rfl rfl Try.func16 (by kernel_rfl) rfl #[.slice Ao9 y161.length co9] rfl (by (try simp only [List.map_toArray, List.map_cons, List.map_nil]); first | done | rfl | (simp only [List.length_drop, List.length_take]; rfl)) ?_; (with_reducible refine (lcs_Numbers.calls k _ _ y161 t164 _ ?side1 ?side2 A3.out).mono ?_); (case side1 => repeat (first | exact (Kd.N_reads' HO163.out).2.2 | (with_reducible refine Kd.C_alloc ?_ _) | (with_reducible refine Kd.C_drewN ?_ _) | (with_reducible refine Kd.C_drew ?_))); (case side2 => exact (Kd.N_reads' HO163.out).2.1); rintro e w10 ⟨v165, rfl, ho0, hb⟩; refine ⟨_, rfl, ?_⟩; have n0_ := Zm (Kd.V_elder' (by (with_reducible repeat (first | apply Kd.V_alloc | apply Kd.V_drewN | apply Kd.V_drew)); exact HO0.out) (by first | exact Kd.N_base ho0 | exact Kd.S_base ho0 | exact Kd.R_base ho0) hb); have n1_ := Zm (Kd.V_elder' (by (with_reducible repeat (first | apply Kd.V_alloc | apply Kd.V_drewN | apply Kd.V_drew)); exact HO1.out) (by first | exact Kd.N_base ho0 | exact Kd.S_base ho0 | exact Kd.R_base ho0) hb); have n2_ := Zm (Kd.N_elder' (by (with_reducible repeat (first | apply Kd.N_alloc | apply Kd.N_drewN | apply Kd.N_drew)); exact HO163.out) (by first | exact Kd.N_base ho0 | exact Kd.S_base ho0 | exact Kd.R_base ho0) hb); have n3_ := Zm (Kd.N_lower (Kd.N_mono (ok' := fun k_ => ((P0_ k_ ∨ P1_ k_) ∨ w.heap.size ≤ k_) ∧ some k_ ≠ (.slice Ao9 y161.length co9 : Value).ownBlock) (Kd.S_N (Kd.S_bound ho0)) (fun k_ hk_ => ⟨(.inr (Nat.le_trans (below_size (by repeat (first | (with_reducible first | exact HB.out | apply below_alloc | apply Zd | apply below_drew1) | exact HB.out))) hk_.2.1)), (Kd.fresh' (Kd.N_lt (by (with_reducible repeat (first | apply Kd.N_alloc | apply Kd.N_drewN | apply Kd.N_drew)); exact HO163.out)) k_ hk_.2.1)⟩)) (below_size (by repeat (first | (with_reducible first | exact HB.out | apply below_alloc | apply Zd | apply below_drew1) | exact HB.out)))); have n4_ := Zm (below_step (by repeat (first | (with_reducible first | exact HB.out | apply below_alloc | apply Zd | apply below_drew1) | exact HB.out)) hb); clear HO0; clear HO1; clear HO163; clear HB; have HO0 := n0_; have HO1 := n1_; have HO163 := n2_; have HO166 := n3_; have HB := n4_; clear n0_ n1_ n2_ n3_ n4_; (try clear hb); (try clear hb2); (try clear hk); (try clear hi); (try clear ho0)))
      have n0_ := Zm (Kd.V_drew HO0.out)
      have n1_ := Zm (Kd.V_drew HO1.out)
      have n2_ := Zm (Kd.N_drew HO163.out)
      have n3_ := Zm (Kd.N_drew HO166.out)
      have n4_ := Zm (below_drew1 HB.out)
      clear HO0
      clear HO1
      clear HO163
      clear HO166
      clear HB
      have HO0 := n0_
      have HO1 := n1_
      have HO163 := n2_
      have HO166 := n3_
      have HB := n4_
      clear n0_ n1_ n2_ n3_ n4_
      obtain ⟨Ao12, co12, eo12⟩ := Kd.N_slice HO166.out
      (first | subst eo12 | (injection eo12 with f1_ f2_ f3_; have f4_ := f1_.symm; have f5_ := f3_.symm; clear f1_ f2_ f3_; subst f4_; subst f5_))
      have p167 : 0 ≤ (0 : Int) := (by omega)
      have q167 : 0 < (t164.length : Int) := Zo (by first | (with_reducible assumption) | assumption)
      obtain ⟨ad167, A167_0, c167_0, e167, hx167_0, hl167_0, hi167_0⟩ := at_L6 (Kd.N_reads' HO166.out).2.2 0 p167 q167
      cases e167
      obtain ⟨ce167, hce167, hMe167, hcc167⟩ := Kd.N_get HO166.out [] 0 p167 (by first | exact q167 | exact Zo (by first | (with_reducible assumption) | assumption) | (have e_ := (Kd.N_reads' HO166.out).1; omega))
      obtain ⟨ua167_0, uc167_0, rfl, ul167_0, ge167_0⟩ := Kd.FK_slice_open hMe167
      have hv167_0 := hcc167 0 _ rfl
      rw [Nat.add_zero, show ((Kd.slice 3 (Kd.int .i64))).sz = 1 from rfl, Nat.mul_one] at hv167_0
      replace hv167_0 := Option.some.inj (hv167_0.symm.trans hx167_0)
      injection hv167_0 with hva_ hvn_ hvc_
      rw [hva_] at ge167_0
      rw [hvc_] at ul167_0
      have HL167_0 := Zm (show Kd.V (Kd.int .i64) 3 _ w.heap.size _ _ (rd_L6 t164 0) from Kd.V_mk ul167_0 ge167_0)
      clear hva_ hvn_ hvc_ ge167_0 ul167_0
      clear hcc167 hce167
      have qi167 : (0 < t164.length) = True := eq_true (by omega)
      (try rw [show ((0 : Int)).toNat = 0 from rfl] at hx167_0)
      (try rw [Addr.add_zero'] at hx167_0)
      have HR167_0 := Zm hi167_0
      have HC167_0 := Zm hl167_0
      clear hi167_0 hl167_0
      replace p167 := eq_true p167
      replace q167 := eq_true q167
      have p168 : 0 ≤ (1 : Int) := (by omega)
      have q168 : 1 < (t164.length : Int) := Zo (by first | (with_reducible assumption) | assumption)
      obtain ⟨ad168, A168_0, c168_0, e168, hx168_0, hl168_0, hi168_0⟩ := at_L6 (Kd.N_reads' HO166.out).2.2 1 p168 q168
      obtain rfl : ad167 = ad168 := (by injection e168)
      obtain ⟨ce168, hce168, hMe168, hcc168⟩ := Kd.N_get HO166.out [] 1 p168 (by first | exact q168 | exact Zo (by first | (with_reducible assumption) | assumption) | (have e_ := (Kd.N_reads' HO166.out).1; omega))
      obtain ⟨ua168_0, uc168_0, rfl, ul168_0, ge168_0⟩ := Kd.FK_slice_open hMe168
      have hv168_0 := hcc168 0 _ rfl
      rw [Nat.add_zero, show ((Kd.slice 3 (Kd.int .i64))).sz = 1 from rfl, Nat.mul_one] at hv168_0
      replace hv168_0 := Option.some.inj (hv168_0.symm.trans hx168_0)
      injection hv168_0 with hva_ hvn_ hvc_
      rw [hva_] at ge168_0
      rw [hvc_] at ul168_0
      have HL168_0 := Zm (show Kd.V (Kd.int .i64) 3 _ w.heap.size _ _ (rd_L6 t164 1) from Kd.V_mk ul168_0 ge168_0)
      clear hva_ hvn_ hvc_ ge168_0 ul168_0
      clear hcc168 hce168
      (try simp only [show (1 : Int).toNat = 1 from rfl, Nat.reduceMul, Nat.reduceEqDiff, Go.Addr.add, ↓reduceIte] at hx168_0)
      have qi168 : (1 < t164.length) = True := eq_true (by omega)
      (try rw [show ((1 : Int)).toNat = 1 from rfl] at hx168_0)
      have HR168_0 := Zm hi168_0
      have HC168_0 := Zm hl168_0
      clear hi168_0 hl168_0
      replace p168 := eq_true p168
      replace q168 := eq_true q168
      refine start_ (n := 8) (S := fun w' => w'.cell? ad167 = some (.slice A167_0 (rd_L6 t164 0).length c167_0) ∧ w'.cell? ⟨ad167.block, ad167.off + 1, none⟩ = some (.slice A168_0 (rd_L6 t164 1).length c168_0)) (ds := []) #[false, false, false, false, false, false, false, false] (by kernel_rfl) rfl rfl ⟨hx167_0, hx168_0⟩ (fun hHeld => ?_); refine with_tabW lcs_Texts.tab2 lcs_Texts.bits2 (fun HT_ HW_ => ?_)
      generalize w10.drew = w11 at HO0 HO1 HO163 HO166 HB HL167_0 HL168_0 HR167_0 HR168_0 hx167_0 hx168_0 hHeld ⊢
      refine pure_ (i := 0) (N := some 10) (v := ?_) (a' := ?_) #[true, false, false, false, false, false, false, false] rfl rfl (any_of HT_.out (by kernel_rfl)) (fun _ _ _ h => h) (Or.inl ⟨by rfl, ?_⟩) ?_ ?_
      rotate_left
      · intro w'
        go_simp
        with_reducible rfl
      rotate_left
      · simp only [Act.put, List.setIfInBounds_toArray, List.set_cons_zero, List.set_cons_succ, i64_w, i32_w]
        rfl
      refine pure_ (i := 1) (N := some 11) (v := ?_) (a' := ?_) #[true, true, false, false, false, false, false, false] rfl rfl (any_of HT_.out (by kernel_rfl)) (fun _ _ _ h => h) (Or.inl ⟨by rfl, ?_⟩) ?_ ?_
      rotate_left
      · intro w'
        go_simp
        with_reducible rfl
      rotate_left
      · simp only [Act.put, List.setIfInBounds_toArray, List.set_cons_zero, List.set_cons_succ, i64_w, i32_w]
        rfl
      refine pure_ (i := 3) (N := some 13) (v := ?_) (a' := ?_) #[true, true, false, true, false, false, false, false] rfl rfl (any_of HT_.out (by kernel_rfl)) (fun _ _ _ h => h) (Or.inl ⟨by rfl, ?_⟩) ?_ ?_
      rotate_left
      · intro w'
        go_simp
        with_reducible rfl
      rotate_left
      · simp only [Act.put, List.setIfInBounds_toArray, List.set_cons_zero, List.set_cons_succ, i64_w, i32_w]
        rfl
      refine pure_ (i := 4) (N := some 14) (v := ?_) (a' := ?_) #[true, true, false, true, true, false, false, false] rfl rfl (any_of HT_.out (by kernel_rfl)) (fun _ _ _ h => h) (Or.inl ⟨by rfl, ?_⟩) ?_ ?_
      rotate_left
      · intro w'
        go_simp
        with_reducible rfl
      rotate_left
      · simp only [Act.put, List.setIfInBounds_toArray, List.set_cons_zero, List.set_cons_succ, i64_w, i32_w]
        rfl
      refine take_ (i := 2) (N := some 12) (v := ?_) (a' := ?_) #[true, true, true, true, true, false, false, false] rfl rfl (take_ofW HT_.out HW_.out (by kernel_rfl)) (fun _ _ _ h => h) (Or.inl ⟨by rfl, ?_⟩) hHeld ?_ ?_
      rotate_left
      · rintro w' ⟨s0, s1⟩
        go_simp
        with_reducible rfl
      rotate_left
      · simp only [Act.put, List.setIfInBounds_toArray, List.set_cons_zero, List.set_cons_succ, i64_w, i32_w]
        rfl
      refine take_ (i := 5) (N := some 15) (v := ?_) (a' := ?_) #[true, true, true, true, true, true, false, false] rfl rfl (take_ofW HT_.out HW_.out (by kernel_rfl)) (fun _ _ _ h => h) (Or.inl ⟨by rfl, ?_⟩) hHeld ?_ ?_
      rotate_left
      · rintro w' ⟨s0, s1⟩
        go_simp
        with_reducible rfl
      rotate_left
      · simp only [Act.put, List.setIfInBounds_toArray, List.set_cons_zero, List.set_cons_succ, i64_w, i32_w]
        rfl
      refine one_ (i := 6) (N := some 16) #[true, true, true, true, true, true, true, false] rfl rfl (one_of HT_.out (by kernel_rfl)) (by decide) (fun K hK => ?_)
      refine goes_ Try.func10 (by kernel_rfl) rfl #[.slice A167_0 (rd_L6 t164 0).length c167_0, .slice A168_0 (rd_L6 t164 1).length c168_0] (by rfl) rfl rfl (by (try simp only [List.map_toArray, List.map_cons, List.map_nil]); first | done | rfl | (simp only [List.length_drop, List.length_take]; rfl)) ?_
      with_reducible refine (lcs_Match.calls k _ _ (rd_L6 t164 0) _ _ (rd_L6 t164 1) t169 _ ?side1 ?side2 ?side3 ?side4 A6.out).mono ?_
      (case side1 => repeat (first | exact (by repeat (first | (with_reducible exact HR167_0.out) | (with_reducible refine Kd.C_alloc ?_ _) | (with_reducible refine Kd.C_drewN ?_ _) | (with_reducible refine Kd.C_drew ?_) | exact HR167_0.out)) | (with_reducible refine Kd.C_alloc ?_ _) | (with_reducible refine Kd.C_drewN ?_ _) | (with_reducible refine Kd.C_drew ?_)))
      (case side2 => exact HC167_0.out)
      (case side3 => repeat (first | exact (by repeat (first | (with_reducible exact HR168_0.out) | (with_reducible refine Kd.C_alloc ?_ _) | (with_reducible refine Kd.C_drewN ?_ _) | (with_reducible refine Kd.C_drew ?_) | exact HR168_0.out)) | (with_reducible refine Kd.C_alloc ?_ _) | (with_reducible refine Kd.C_drewN ?_ _) | (with_reducible refine Kd.C_drew ?_)))
      (case side4 => exact HC168_0.out)
      rintro e w13 ⟨v170, rfl, ho0, hb⟩
      have HS0_ := (hb.cell (World.block_lt_of_cell? _ _ (hHeld.1))).trans (hHeld.1)
      have HS1_ := (hb.cell (World.block_lt_of_cell? _ _ (hHeld.2))).trans (hHeld.2)
      refine ⟨_, rfl, ?_⟩
      have n0_ := Zm (Kd.V_elder' (by (with_reducible repeat (first | apply Kd.V_alloc | apply Kd.V_drewN | apply Kd.V_drew)); exact HO0.out) (Kd.R_base ho0) hb)
      have n1_ := Zm (Kd.V_elder' (by (with_reducible repeat (first | apply Kd.V_alloc | apply Kd.V_drewN | apply Kd.V_drew)); exact HO1.out) (Kd.R_base ho0) hb)
      have n2_ := Zm (Kd.N_elder' (by (with_reducible repeat (first | apply Kd.N_alloc | apply Kd.N_drewN | apply Kd.N_drew)); exact HO163.out) (Kd.R_base ho0) hb)
      have n3_ := Zm (Kd.N_elder' (by (with_reducible repeat (first | apply Kd.N_alloc | apply Kd.N_drewN | apply Kd.N_drew)); exact HO166.out) (Kd.R_base ho0) hb)
      have n4_ := Zm (Kd.V_elder' (by (with_reducible repeat (first | apply Kd.V_alloc | apply Kd.V_drewN | apply Kd.V_drew)); exact HL167_0.out) (Kd.R_base ho0) hb)
      have n5_ := Zm (Kd.V_elder' (by (with_reducible repeat (first | apply Kd.V_alloc | apply Kd.V_drewN | apply Kd.V_drew)); exact HL168_0.out) (Kd.R_base ho0) hb)
      have n6_ := Zm (Kd.R_lower (Kd.R_newM (M := fun k_ => (w.heap.size ≤ k_)) ho0 (below_size (by repeat (first | (with_reducible first | exact HB.out | apply below_alloc | apply Zd | apply below_drew1) | exact HB.out))) (fun k_ h_ => h_)) (below_size (by repeat (first | (with_reducible first | exact HB.out | apply below_alloc | apply Zd | apply below_drew1) | exact HB.out))))
      have n7_ := Zm (Kd.C_below (by repeat (first | (with_reducible exact HR167_0.out) | (with_reducible refine Kd.C_alloc ?_ _) | (with_reducible refine Kd.C_drewN ?_ _) | (with_reducible refine Kd.C_drew ?_) | exact HR167_0.out)) hb)
      have n8_ := Zm (Kd.C_below (by repeat (first | (with_reducible exact HR168_0.out) | (with_reducible refine Kd.C_alloc ?_ _) | (with_reducible refine Kd.C_drewN ?_ _) | (with_reducible refine Kd.C_drew ?_) | exact HR168_0.out)) hb)
      have n9_ := Zm (below_step (by repeat (first | (with_reducible first | exact HB.out | apply below_alloc | apply Zd | apply below_drew1) | exact HB.out)) hb)
      clear HO0
      clear HO1
      clear HO163
      clear HO166
      clear HL167_0
      clear HL168_0
      clear HR167_0
      clear HR168_0
      clear HB
      have HO0 := n0_
      have HO1 := n1_
      have HO163 := n2_
      have HO166 := n3_
      have HL167_0 := n4_
      have HL168_0 := n5_
      have HO171 := n6_
      have HR167_0 := n7_
      have HR168_0 := n8_
      have HB := n9_
      clear n0_ n1_ n2_ n3_ n4_ n5_ n6_ n7_ n8_ n9_
      (try clear hb)
      (try clear hb2)
      (try clear hk)
      (try clear hi)
      (try clear ho0)
      refine hK.out _ _ ⟨HS0_, HS1_⟩ (fun hHeld => ?_)
      clear hK K
      refine norm_ (a' := ?_) ?_ ?_
      rotate_left
      · show Act.put _ (some 16) _ = _
        simp only [Act.put, List.setIfInBounds_toArray, List.set_cons_zero, List.set_cons_succ, i64_w, i32_w]
        rfl
      refine pure_ (i := 7) (N := some 4) (v := ?_) (a' := ?_) #[true, true, true, true, true, true, true, true] rfl rfl (any_of HT_.out (by kernel_rfl)) (fun _ _ _ h => h) (Or.inl ⟨by rfl, ?_⟩) ?_ ?_
      rotate_left
      · intro w'
        go_simp
        with_reducible rfl
      rotate_left
      · simp only [Act.put, List.setIfInBounds_toArray, List.set_cons_zero, List.set_cons_succ, i64_w, i32_w]
        rfl
      refine done_ (done_of HT_.out (by kernel_rfl)) ?_
      try go_wp2
      go_ret
      exact ⟨_, by first | rfl | (simp [errW_none, errW_some] <;> rfl) | (simp [*, errW_none, errW_some] <;> rfl), by (with_reducible repeat (first | apply Kd.R_alloc | apply Kd.R_drewN | apply Kd.R_drew)); exact Kd.R_mono HO171.out (fun _ hk => hk.1), by repeat (first | (with_reducible first | exact HB.out | apply below_alloc | apply Zd | apply below_drew1) | exact HB.out)⟩
    · rw [if_neg c5] at H
      exact absurd H (by simp)
  · rw [if_neg c4] at H
    exact absurd H (by simp)

/-! ### l05_awake: function 8 -/
def l05_awake.f (k : Nat)  : Option (Bool) := (lcs_Match.f k (([1, 2, 3, 2] : List Int)) (([2, 3, 1, 2] : List Int))).bind fun t178 => ((lcs_Numbers.f k (([(([(⟨#[98]⟩ : ByteArray), (⟨#[97]⟩ : ByteArray)] : List ByteArray)), (([(⟨#[97]⟩ : ByteArray), (⟨#[99]⟩ : ByteArray)] : List ByteArray))] : List (List ByteArray)))).bind fun t190 => ((r05_Same.f k t178 (([(-1), 0, 1, 3] : List Int))).bind fun t196 => (if t196 = true then ((lcs_Length.f k (([1, 2, 3, 2] : List Int)) (([2, 3, 1, 2] : List Int))).bind fun t203 => (if t203 = 3 then ((lcs_Percent.f k (([1, 2, 3, 2] : List Int)) (([2, 3, 1, 2] : List Int))).bind fun t210 => (if t210 = 75 then ((lcs_Texts.f k (([(⟨#[120]⟩ : ByteArray)] : List ByteArray)) (([(⟨#[121]⟩ : ByteArray), (⟨#[120]⟩ : ByteArray)] : List ByteArray))).bind fun t217 => ((r05_Same.f k t217 (([1] : List Int))).bind fun t223 => (if t223 = true then (if (t190.length : Int) = 2 then (if 1 < (t190.length : Int) then ((r05_Same.f k (rd_L6 t190 1) (([1, 2] : List Int))).bind fun t228 => (some t228)) else (none)) else (none)) else (none)))) else (none))) else (none))) else (none))))
theorem l05_awake.mono : ∀ k, LeO (l05_awake.f k ) (l05_awake.f (k + 1) ) := by
  intro  k
  unfold l05_awake.f
  repeat' first
      | (with_reducible exact r05_Same.mono _ _ _)
      | (with_reducible exact lcs_Length.mono _ _ _)
      | (with_reducible exact lcs_Match.mono _ _ _)
      | (with_reducible exact lcs_Numbers.mono _ _)
      | (with_reducible exact lcs_Percent.mono _ _ _)
      | (with_reducible exact lcs_Texts.mono _ _ _)
      | (with_reducible exact LeO.refl _)
      | (with_reducible exact LeO.none _)
      | (with_reducible refine LeO.ite ?_ ?_)
      | (with_reducible refine LeO.bind ?_ (fun _ => ?_))
      | exact r05_Same.mono _ _ _
      | exact lcs_Length.mono _ _ _
      | exact lcs_Match.mono _ _ _
      | exact lcs_Numbers.mono _ _
      | exact lcs_Percent.mono _ _ _
      | exact lcs_Texts.mono _ _ _
      | exact LeO.none _
      | refine LeO.ite ?_ ?_
      | refine LeO.bind ?_ (fun _ => ?_)
set_option maxHeartbeats 8000000 in
set_option maxRecDepth 100000 in
theorem l05_awake.calls (k : Nat)  (r : Bool) (w : World) (h : l05_awake.f k  = some r) :
    Calls Try.prog 8 #[] w fun e w' => e = .returned (.bool r) ∧ Below w.heap.size w w' := by
  have HB := Zm (Below.refl w.heap.size w)
  have H : ((lcs_Match.f k (([1, 2, 3, 2] : List Int)) (([2, 3, 1, 2] : List Int))).bind fun t178 => ((lcs_Numbers.f k (([(([(⟨#[98]⟩ : ByteArray), (⟨#[97]⟩ : ByteArray)] : List ByteArray)), (([(⟨#[97]⟩ : ByteArray), (⟨#[99]⟩ : ByteArray)] : List ByteArray))] : List (List ByteArray)))).bind fun t190 => ((r05_Same.f k t178 (([(-1), 0, 1, 3] : List Int))).bind fun t196 => (if t196 = true then ((lcs_Length.f k (([1, 2, 3, 2] : List Int)) (([2, 3, 1, 2] : List Int))).bind fun t203 => (if t203 = 3 then ((lcs_Percent.f k (([1, 2, 3, 2] : List Int)) (([2, 3, 1, 2] : List Int))).bind fun t210 => (if t210 = 75 then ((lcs_Texts.f k (([(⟨#[120]⟩ : ByteArray)] : List ByteArray)) (([(⟨#[121]⟩ : ByteArray), (⟨#[120]⟩ : ByteArray)] : List ByteArray))).bind fun t217 => ((r05_Same.f k t217 (([1] : List Int))).bind fun t223 => (if t223 = true then (if (t190.length : Int) = 2 then (if 1 < (t190.length : Int) then ((r05_Same.f k (rd_L6 t190 1) (([1, 2] : List Int))).bind fun t228 => (some t228)) else (none)) else (none)) else (none)))) else (none))) else (none))) else (none))))) = some r := h
  clear h
  obtain ⟨y172, hy172⟩ : ∃ y_ : List Int, y_ = (([1, 2, 3, 2] : List Int)) := ⟨_, rfl⟩
  replace H : ((lcs_Match.f k y172 (([2, 3, 1, 2] : List Int))).bind fun t178 => ((lcs_Numbers.f k (([(([(⟨#[98]⟩ : ByteArray), (⟨#[97]⟩ : ByteArray)] : List ByteArray)), (([(⟨#[97]⟩ : ByteArray), (⟨#[99]⟩ : ByteArray)] : List ByteArray))] : List (List ByteArray)))).bind fun t190 => ((r05_Same.f k t178 (([(-1), 0, 1, 3] : List Int))).bind fun t196 => (if t196 = true then ((lcs_Length.f k (([1, 2, 3, 2] : List Int)) (([2, 3, 1, 2] : List Int))).bind fun t203 => (if t203 = 3 then ((lcs_Percent.f k (([1, 2, 3, 2] : List Int)) (([2, 3, 1, 2] : List Int))).bind fun t210 => (if t210 = 75 then ((lcs_Texts.f k (([(⟨#[120]⟩ : ByteArray)] : List ByteArray)) (([(⟨#[121]⟩ : ByteArray), (⟨#[120]⟩ : ByteArray)] : List ByteArray))).bind fun t217 => ((r05_Same.f k t217 (([1] : List Int))).bind fun t223 => (if t223 = true then (if (t190.length : Int) = 2 then (if 1 < (t190.length : Int) then ((r05_Same.f k (rd_L6 t190 1) (([1, 2] : List Int))).bind fun t228 => (some t228)) else (none)) else (none)) else (none)))) else (none))) else (none))) else (none))))) = some r := by first | (rw [hy172]; with_reducible exact H) | (have H2_ := (Option.bind_some _ _).symm.trans H; rw [hy172]; with_reducible exact H2_) | (have H2_ := (Option.bind_some _ _).symm.trans H; with_reducible exact H2_) | with_reducible exact H | (rw [hy172]; exact H) | exact H
  have Ny172 := Zm hy172
  clear hy172
  obtain ⟨y175, hy175⟩ : ∃ y_ : List Int, y_ = (([2, 3, 1, 2] : List Int)) := ⟨_, rfl⟩
  replace H : ((lcs_Match.f k y172 y175).bind fun t178 => ((lcs_Numbers.f k (([(([(⟨#[98]⟩ : ByteArray), (⟨#[97]⟩ : ByteArray)] : List ByteArray)), (([(⟨#[97]⟩ : ByteArray), (⟨#[99]⟩ : ByteArray)] : List ByteArray))] : List (List ByteArray)))).bind fun t190 => ((r05_Same.f k t178 (([(-1), 0, 1, 3] : List Int))).bind fun t196 => (if t196 = true then ((lcs_Length.f k (([1, 2, 3, 2] : List Int)) (([2, 3, 1, 2] : List Int))).bind fun t203 => (if t203 = 3 then ((lcs_Percent.f k (([1, 2, 3, 2] : List Int)) (([2, 3, 1, 2] : List Int))).bind fun t210 => (if t210 = 75 then ((lcs_Texts.f k (([(⟨#[120]⟩ : ByteArray)] : List ByteArray)) (([(⟨#[121]⟩ : ByteArray), (⟨#[120]⟩ : ByteArray)] : List ByteArray))).bind fun t217 => ((r05_Same.f k t217 (([1] : List Int))).bind fun t223 => (if t223 = true then (if (t190.length : Int) = 2 then (if 1 < (t190.length : Int) then ((r05_Same.f k (rd_L6 t190 1) (([1, 2] : List Int))).bind fun t228 => (some t228)) else (none)) else (none)) else (none)))) else (none))) else (none))) else (none))))) = some r := by first | (rw [hy175]; with_reducible exact H) | (have H2_ := (Option.bind_some _ _).symm.trans H; rw [hy175]; with_reducible exact H2_) | (have H2_ := (Option.bind_some _ _).symm.trans H; with_reducible exact H2_) | with_reducible exact H | (rw [hy175]; exact H) | exact H
  have Ny175 := Zm hy175
  clear hy175
  replace H := Option.bind_eq_some_iff.mp H
  obtain ⟨t178, A10, H⟩ := H
  replace H : ((lcs_Numbers.f k (([(([(⟨#[98]⟩ : ByteArray), (⟨#[97]⟩ : ByteArray)] : List ByteArray)), (([(⟨#[97]⟩ : ByteArray), (⟨#[99]⟩ : ByteArray)] : List ByteArray))] : List (List ByteArray)))).bind fun t190 => ((r05_Same.f k t178 (([(-1), 0, 1, 3] : List Int))).bind fun t196 => (if t196 = true then ((lcs_Length.f k (([1, 2, 3, 2] : List Int)) (([2, 3, 1, 2] : List Int))).bind fun t203 => (if t203 = 3 then ((lcs_Percent.f k (([1, 2, 3, 2] : List Int)) (([2, 3, 1, 2] : List Int))).bind fun t210 => (if t210 = 75 then ((lcs_Texts.f k (([(⟨#[120]⟩ : ByteArray)] : List ByteArray)) (([(⟨#[121]⟩ : ByteArray), (⟨#[120]⟩ : ByteArray)] : List ByteArray))).bind fun t217 => ((r05_Same.f k t217 (([1] : List Int))).bind fun t223 => (if t223 = true then (if (t190.length : Int) = 2 then (if 1 < (t190.length : Int) then ((r05_Same.f k (rd_L6 t190 1) (([1, 2] : List Int))).bind fun t228 => (some t228)) else (none)) else (none)) else (none)))) else (none))) else (none))) else (none)))) = some r := H
  have A1 := Zm A10
  clear A10
  obtain ⟨y181, hy181⟩ : ∃ y_ : List ByteArray, y_ = (([(⟨#[98]⟩ : ByteArray), (⟨#[97]⟩ : ByteArray)] : List ByteArray)) := ⟨_, rfl⟩
  replace H : ((lcs_Numbers.f k (([y181, (([(⟨#[97]⟩ : ByteArray), (⟨#[99]⟩ : ByteArray)] : List ByteArray))] : List (List ByteArray)))).bind fun t190 => ((r05_Same.f k t178 (([(-1), 0, 1, 3] : List Int))).bind fun t196 => (if t196 = true then ((lcs_Length.f k (([1, 2, 3, 2] : List Int)) (([2, 3, 1, 2] : List Int))).bind fun t203 => (if t203 = 3 then ((lcs_Percent.f k (([1, 2, 3, 2] : List Int)) (([2, 3, 1, 2] : List Int))).bind fun t210 => (if t210 = 75 then ((lcs_Texts.f k (([(⟨#[120]⟩ : ByteArray)] : List ByteArray)) (([(⟨#[121]⟩ : ByteArray), (⟨#[120]⟩ : ByteArray)] : List ByteArray))).bind fun t217 => ((r05_Same.f k t217 (([1] : List Int))).bind fun t223 => (if t223 = true then (if (t190.length : Int) = 2 then (if 1 < (t190.length : Int) then ((r05_Same.f k (rd_L6 t190 1) (([1, 2] : List Int))).bind fun t228 => (some t228)) else (none)) else (none)) else (none)))) else (none))) else (none))) else (none)))) = some r := by first | (rw [hy181]; with_reducible exact H) | (have H2_ := (Option.bind_some _ _).symm.trans H; rw [hy181]; with_reducible exact H2_) | (have H2_ := (Option.bind_some _ _).symm.trans H; with_reducible exact H2_) | with_reducible exact H | (rw [hy181]; exact H) | exact H
  have Ny181 := Zm hy181
  clear hy181
  obtain ⟨y184, hy184⟩ : ∃ y_ : List ByteArray, y_ = (([(⟨#[97]⟩ : ByteArray), (⟨#[99]⟩ : ByteArray)] : List ByteArray)) := ⟨_, rfl⟩
  replace H : ((lcs_Numbers.f k (([y181, y184] : List (List ByteArray)))).bind fun t190 => ((r05_Same.f k t178 (([(-1), 0, 1, 3] : List Int))).bind fun t196 => (if t196 = true then ((lcs_Length.f k (([1, 2, 3, 2] : List Int)) (([2, 3, 1, 2] : List Int))).bind fun t203 => (if t203 = 3 then ((lcs_Percent.f k (([1, 2, 3, 2] : List Int)) (([2, 3, 1, 2] : List Int))).bind fun t210 => (if t210 = 75 then ((lcs_Texts.f k (([(⟨#[120]⟩ : ByteArray)] : List ByteArray)) (([(⟨#[121]⟩ : ByteArray), (⟨#[120]⟩ : ByteArray)] : List ByteArray))).bind fun t217 => ((r05_Same.f k t217 (([1] : List Int))).bind fun t223 => (if t223 = true then (if (t190.length : Int) = 2 then (if 1 < (t190.length : Int) then ((r05_Same.f k (rd_L6 t190 1) (([1, 2] : List Int))).bind fun t228 => (some t228)) else (none)) else (none)) else (none)))) else (none))) else (none))) else (none)))) = some r := by first | (rw [hy184]; with_reducible exact H) | (have H2_ := (Option.bind_some _ _).symm.trans H; rw [hy184]; with_reducible exact H2_) | (have H2_ := (Option.bind_some _ _).symm.trans H; with_reducible exact H2_) | with_reducible exact H | (rw [hy184]; exact H) | exact H
  have Ny184 := Zm hy184
  clear hy184
  obtain ⟨y187, hy187⟩ : ∃ y_ : List (List ByteArray), y_ = (([y181, y184] : List (List ByteArray))) := ⟨_, rfl⟩
  replace H : ((lcs_Numbers.f k y187).bind fun t190 => ((r05_Same.f k t178 (([(-1), 0, 1, 3] : List Int))).bind fun t196 => (if t196 = true then ((lcs_Length.f k (([1, 2, 3, 2] : List Int)) (([2, 3, 1, 2] : List Int))).bind fun t203 => (if t203 = 3 then ((lcs_Percent.f k (([1, 2, 3, 2] : List Int)) (([2, 3, 1, 2] : List Int))).bind fun t210 => (if t210 = 75 then ((lcs_Texts.f k (([(⟨#[120]⟩ : ByteArray)] : List ByteArray)) (([(⟨#[121]⟩ : ByteArray), (⟨#[120]⟩ : ByteArray)] : List ByteArray))).bind fun t217 => ((r05_Same.f k t217 (([1] : List Int))).bind fun t223 => (if t223 = true then (if (t190.length : Int) = 2 then (if 1 < (t190.length : Int) then ((r05_Same.f k (rd_L6 t190 1) (([1, 2] : List Int))).bind fun t228 => (some t228)) else (none)) else (none)) else (none)))) else (none))) else (none))) else (none)))) = some r := by first | (rw [hy187]; with_reducible exact H) | (have H2_ := (Option.bind_some _ _).symm.trans H; rw [hy187]; with_reducible exact H2_) | (have H2_ := (Option.bind_some _ _).symm.trans H; with_reducible exact H2_) | with_reducible exact H | (rw [hy187]; exact H) | exact H
  have Ny187 := Zm hy187
  clear hy187
  replace H := Option.bind_eq_some_iff.mp H
  obtain ⟨t190, A20, H⟩ := H
  replace H : ((r05_Same.f k t178 (([(-1), 0, 1, 3] : List Int))).bind fun t196 => (if t196 = true then ((lcs_Length.f k (([1, 2, 3, 2] : List Int)) (([2, 3, 1, 2] : List Int))).bind fun t203 => (if t203 = 3 then ((lcs_Percent.f k (([1, 2, 3, 2] : List Int)) (([2, 3, 1, 2] : List Int))).bind fun t210 => (if t210 = 75 then ((lcs_Texts.f k (([(⟨#[120]⟩ : ByteArray)] : List ByteArray)) (([(⟨#[121]⟩ : ByteArray), (⟨#[120]⟩ : ByteArray)] : List ByteArray))).bind fun t217 => ((r05_Same.f k t217 (([1] : List Int))).bind fun t223 => (if t223 = true then (if (t190.length : Int) = 2 then (if 1 < (t190.length : Int) then ((r05_Same.f k (rd_L6 t190 1) (([1, 2] : List Int))).bind fun t228 => (some t228)) else (none)) else (none)) else (none)))) else (none))) else (none))) else (none))) = some r := H
  have A2 := Zm A20
  clear A20
  obtain ⟨y193, hy193⟩ : ∃ y_ : List Int, y_ = (([(-1), 0, 1, 3] : List Int)) := ⟨_, rfl⟩
  replace H : ((r05_Same.f k t178 y193).bind fun t196 => (if t196 = true then ((lcs_Length.f k (([1, 2, 3, 2] : List Int)) (([2, 3, 1, 2] : List Int))).bind fun t203 => (if t203 = 3 then ((lcs_Percent.f k (([1, 2, 3, 2] : List Int)) (([2, 3, 1, 2] : List Int))).bind fun t210 => (if t210 = 75 then ((lcs_Texts.f k (([(⟨#[120]⟩ : ByteArray)] : List ByteArray)) (([(⟨#[121]⟩ : ByteArray), (⟨#[120]⟩ : ByteArray)] : List ByteArray))).bind fun t217 => ((r05_Same.f k t217 (([1] : List Int))).bind fun t223 => (if t223 = true then (if (t190.length : Int) = 2 then (if 1 < (t190.length : Int) then ((r05_Same.f k (rd_L6 t190 1) (([1, 2] : List Int))).bind fun t228 => (some t228)) else (none)) else (none)) else (none)))) else (none))) else (none))) else (none))) = some r := by first | (rw [hy193]; with_reducible exact H) | (have H2_ := (Option.bind_some _ _).symm.trans H; rw [hy193]; with_reducible exact H2_) | (have H2_ := (Option.bind_some _ _).symm.trans H; with_reducible exact H2_) | with_reducible exact H | (rw [hy193]; exact H) | exact H
  have Ny193 := Zm hy193
  clear hy193
  replace H := Option.bind_eq_some_iff.mp H
  obtain ⟨t196, A30, H⟩ := H
  replace H : (if t196 = true then ((lcs_Length.f k (([1, 2, 3, 2] : List Int)) (([2, 3, 1, 2] : List Int))).bind fun t203 => (if t203 = 3 then ((lcs_Percent.f k (([1, 2, 3, 2] : List Int)) (([2, 3, 1, 2] : List Int))).bind fun t210 => (if t210 = 75 then ((lcs_Texts.f k (([(⟨#[120]⟩ : ByteArray)] : List ByteArray)) (([(⟨#[121]⟩ : ByteArray), (⟨#[120]⟩ : ByteArray)] : List ByteArray))).bind fun t217 => ((r05_Same.f k t217 (([1] : List Int))).bind fun t223 => (if t223 = true then (if (t190.length : Int) = 2 then (if 1 < (t190.length : Int) then ((r05_Same.f k (rd_L6 t190 1) (([1, 2] : List Int))).bind fun t228 => (some t228)) else (none)) else (none)) else (none)))) else (none))) else (none))) else (none)) = some r := H
  have A3 := Zm A30
  clear A30
  by_cases c4 : t196 = true
  · subst c4
    have H1 : ((lcs_Length.f k (([1, 2, 3, 2] : List Int)) (([2, 3, 1, 2] : List Int))).bind fun t203 => (if t203 = 3 then ((lcs_Percent.f k (([1, 2, 3, 2] : List Int)) (([2, 3, 1, 2] : List Int))).bind fun t210 => (if t210 = 75 then ((lcs_Texts.f k (([(⟨#[120]⟩ : ByteArray)] : List ByteArray)) (([(⟨#[121]⟩ : ByteArray), (⟨#[120]⟩ : ByteArray)] : List ByteArray))).bind fun t217 => ((r05_Same.f k t217 (([1] : List Int))).bind fun t223 => (if t223 = true then (if (t190.length : Int) = 2 then (if 1 < (t190.length : Int) then ((r05_Same.f k (rd_L6 t190 1) (([1, 2] : List Int))).bind fun t228 => (some t228)) else (none)) else (none)) else (none)))) else (none))) else (none))) = some r := by rw [if_pos rfl] at H; exact H
    clear H
    have H := H1
    clear H1
    obtain ⟨y197, hy197⟩ : ∃ y_ : List Int, y_ = (([1, 2, 3, 2] : List Int)) := ⟨_, rfl⟩
    replace H : ((lcs_Length.f k y197 (([2, 3, 1, 2] : List Int))).bind fun t203 => (if t203 = 3 then ((lcs_Percent.f k (([1, 2, 3, 2] : List Int)) (([2, 3, 1, 2] : List Int))).bind fun t210 => (if t210 = 75 then ((lcs_Texts.f k (([(⟨#[120]⟩ : ByteArray)] : List ByteArray)) (([(⟨#[121]⟩ : ByteArray), (⟨#[120]⟩ : ByteArray)] : List ByteArray))).bind fun t217 => ((r05_Same.f k t217 (([1] : List Int))).bind fun t223 => (if t223 = true then (if (t190.length : Int) = 2 then (if 1 < (t190.length : Int) then ((r05_Same.f k (rd_L6 t190 1) (([1, 2] : List Int))).bind fun t228 => (some t228)) else (none)) else (none)) else (none)))) else (none))) else (none))) = some r := by first | (rw [hy197]; with_reducible exact H) | (have H2_ := (Option.bind_some _ _).symm.trans H; rw [hy197]; with_reducible exact H2_) | (have H2_ := (Option.bind_some _ _).symm.trans H; with_reducible exact H2_) | with_reducible exact H | (rw [hy197]; exact H) | exact H
    have Ny197 := Zm hy197
    clear hy197
    obtain ⟨y200, hy200⟩ : ∃ y_ : List Int, y_ = (([2, 3, 1, 2] : List Int)) := ⟨_, rfl⟩
    replace H : ((lcs_Length.f k y197 y200).bind fun t203 => (if t203 = 3 then ((lcs_Percent.f k (([1, 2, 3, 2] : List Int)) (([2, 3, 1, 2] : List Int))).bind fun t210 => (if t210 = 75 then ((lcs_Texts.f k (([(⟨#[120]⟩ : ByteArray)] : List ByteArray)) (([(⟨#[121]⟩ : ByteArray), (⟨#[120]⟩ : ByteArray)] : List ByteArray))).bind fun t217 => ((r05_Same.f k t217 (([1] : List Int))).bind fun t223 => (if t223 = true then (if (t190.length : Int) = 2 then (if 1 < (t190.length : Int) then ((r05_Same.f k (rd_L6 t190 1) (([1, 2] : List Int))).bind fun t228 => (some t228)) else (none)) else (none)) else (none)))) else (none))) else (none))) = some r := by first | (rw [hy200]; with_reducible exact H) | (have H2_ := (Option.bind_some _ _).symm.trans H; rw [hy200]; with_reducible exact H2_) | (have H2_ := (Option.bind_some _ _).symm.trans H; with_reducible exact H2_) | with_reducible exact H | (rw [hy200]; exact H) | exact H
    have Ny200 := Zm hy200
    clear hy200
    replace H := Option.bind_eq_some_iff.mp H
    obtain ⟨t203, A50, H⟩ := H
    replace H : (if t203 = 3 then ((lcs_Percent.f k (([1, 2, 3, 2] : List Int)) (([2, 3, 1, 2] : List Int))).bind fun t210 => (if t210 = 75 then ((lcs_Texts.f k (([(⟨#[120]⟩ : ByteArray)] : List ByteArray)) (([(⟨#[121]⟩ : ByteArray), (⟨#[120]⟩ : ByteArray)] : List ByteArray))).bind fun t217 => ((r05_Same.f k t217 (([1] : List Int))).bind fun t223 => (if t223 = true then (if (t190.length : Int) = 2 then (if 1 < (t190.length : Int) then ((r05_Same.f k (rd_L6 t190 1) (([1, 2] : List Int))).bind fun t228 => (some t228)) else (none)) else (none)) else (none)))) else (none))) else (none)) = some r := H
    have A5 := Zm A50
    clear A50
    by_cases c6 : t203 = 3
    · rw [if_pos c6] at H
      have c6b0 : (t203 == 3) = true := beq_iff_eq.mpr c6
      have c6b1 : (t203 != 3) = false := bne_eq_false_iff_eq.mpr c6
      clear c6
      obtain ⟨y204, hy204⟩ : ∃ y_ : List Int, y_ = (([1, 2, 3, 2] : List Int)) := ⟨_, rfl⟩
      replace H : ((lcs_Percent.f k y204 (([2, 3, 1, 2] : List Int))).bind fun t210 => (if t210 = 75 then ((lcs_Texts.f k (([(⟨#[120]⟩ : ByteArray)] : List ByteArray)) (([(⟨#[121]⟩ : ByteArray), (⟨#[120]⟩ : ByteArray)] : List ByteArray))).bind fun t217 => ((r05_Same.f k t217 (([1] : List Int))).bind fun t223 => (if t223 = true then (if (t190.length : Int) = 2 then (if 1 < (t190.length : Int) then ((r05_Same.f k (rd_L6 t190 1) (([1, 2] : List Int))).bind fun t228 => (some t228)) else (none)) else (none)) else (none)))) else (none))) = some r := by first | (rw [hy204]; with_reducible exact H) | (have H2_ := (Option.bind_some _ _).symm.trans H; rw [hy204]; with_reducible exact H2_) | (have H2_ := (Option.bind_some _ _).symm.trans H; with_reducible exact H2_) | with_reducible exact H | (rw [hy204]; exact H) | exact H
      have Ny204 := Zm hy204
      clear hy204
      obtain ⟨y207, hy207⟩ : ∃ y_ : List Int, y_ = (([2, 3, 1, 2] : List Int)) := ⟨_, rfl⟩
      replace H : ((lcs_Percent.f k y204 y207).bind fun t210 => (if t210 = 75 then ((lcs_Texts.f k (([(⟨#[120]⟩ : ByteArray)] : List ByteArray)) (([(⟨#[121]⟩ : ByteArray), (⟨#[120]⟩ : ByteArray)] : List ByteArray))).bind fun t217 => ((r05_Same.f k t217 (([1] : List Int))).bind fun t223 => (if t223 = true then (if (t190.length : Int) = 2 then (if 1 < (t190.length : Int) then ((r05_Same.f k (rd_L6 t190 1) (([1, 2] : List Int))).bind fun t228 => (some t228)) else (none)) else (none)) else (none)))) else (none))) = some r := by first | (rw [hy207]; with_reducible exact H) | (have H2_ := (Option.bind_some _ _).symm.trans H; rw [hy207]; with_reducible exact H2_) | (have H2_ := (Option.bind_some _ _).symm.trans H; with_reducible exact H2_) | with_reducible exact H | (rw [hy207]; exact H) | exact H
      have Ny207 := Zm hy207
      clear hy207
      replace H := Option.bind_eq_some_iff.mp H
      obtain ⟨t210, A70, H⟩ := H
      replace H : (if t210 = 75 then ((lcs_Texts.f k (([(⟨#[120]⟩ : ByteArray)] : List ByteArray)) (([(⟨#[121]⟩ : ByteArray), (⟨#[120]⟩ : ByteArray)] : List ByteArray))).bind fun t217 => ((r05_Same.f k t217 (([1] : List Int))).bind fun t223 => (if t223 = true then (if (t190.length : Int) = 2 then (if 1 < (t190.length : Int) then ((r05_Same.f k (rd_L6 t190 1) (([1, 2] : List Int))).bind fun t228 => (some t228)) else (none)) else (none)) else (none)))) else (none)) = some r := H
      have A7 := Zm A70
      clear A70
      by_cases c8 : t210 = 75
      · rw [if_pos c8] at H
        have c8b0 : (t210 == 75) = true := beq_iff_eq.mpr c8
        have c8b1 : (t210 != 75) = false := bne_eq_false_iff_eq.mpr c8
        clear c8
        obtain ⟨y211, hy211⟩ : ∃ y_ : List ByteArray, y_ = (([(⟨#[120]⟩ : ByteArray)] : List ByteArray)) := ⟨_, rfl⟩
        replace H : ((lcs_Texts.f k y211 (([(⟨#[121]⟩ : ByteArray), (⟨#[120]⟩ : ByteArray)] : List ByteArray))).bind fun t217 => ((r05_Same.f k t217 (([1] : List Int))).bind fun t223 => (if t223 = true then (if (t190.length : Int) = 2 then (if 1 < (t190.length : Int) then ((r05_Same.f k (rd_L6 t190 1) (([1, 2] : List Int))).bind fun t228 => (some t228)) else (none)) else (none)) else (none)))) = some r := by first | (rw [hy211]; with_reducible exact H) | (have H2_ := (Option.bind_some _ _).symm.trans H; rw [hy211]; with_reducible exact H2_) | (have H2_ := (Option.bind_some _ _).symm.trans H; with_reducible exact H2_) | with_reducible exact H | (rw [hy211]; exact H) | exact H
        have Ny211 := Zm hy211
        clear hy211
        obtain ⟨y214, hy214⟩ : ∃ y_ : List ByteArray, y_ = (([(⟨#[121]⟩ : ByteArray), (⟨#[120]⟩ : ByteArray)] : List ByteArray)) := ⟨_, rfl⟩
        replace H : ((lcs_Texts.f k y211 y214).bind fun t217 => ((r05_Same.f k t217 (([1] : List Int))).bind fun t223 => (if t223 = true then (if (t190.length : Int) = 2 then (if 1 < (t190.length : Int) then ((r05_Same.f k (rd_L6 t190 1) (([1, 2] : List Int))).bind fun t228 => (some t228)) else (none)) else (none)) else (none)))) = some r := by first | (rw [hy214]; with_reducible exact H) | (have H2_ := (Option.bind_some _ _).symm.trans H; rw [hy214]; with_reducible exact H2_) | (have H2_ := (Option.bind_some _ _).symm.trans H; with_reducible exact H2_) | with_reducible exact H | (rw [hy214]; exact H) | exact H
        have Ny214 := Zm hy214
        clear hy214
        replace H := Option.bind_eq_some_iff.mp H
        obtain ⟨t217, A90, H⟩ := H
        replace H : ((r05_Same.f k t217 (([1] : List Int))).bind fun t223 => (if t223 = true then (if (t190.length : Int) = 2 then (if 1 < (t190.length : Int) then ((r05_Same.f k (rd_L6 t190 1) (([1, 2] : List Int))).bind fun t228 => (some t228)) else (none)) else (none)) else (none))) = some r := H
        have A9 := Zm A90
        clear A90
        obtain ⟨y220, hy220⟩ : ∃ y_ : List Int, y_ = (([1] : List Int)) := ⟨_, rfl⟩
        replace H : ((r05_Same.f k t217 y220).bind fun t223 => (if t223 = true then (if (t190.length : Int) = 2 then (if 1 < (t190.length : Int) then ((r05_Same.f k (rd_L6 t190 1) (([1, 2] : List Int))).bind fun t228 => (some t228)) else (none)) else (none)) else (none))) = some r := by first | (rw [hy220]; with_reducible exact H) | (have H2_ := (Option.bind_some _ _).symm.trans H; rw [hy220]; with_reducible exact H2_) | (have H2_ := (Option.bind_some _ _).symm.trans H; with_reducible exact H2_) | with_reducible exact H | (rw [hy220]; exact H) | exact H
        have Ny220 := Zm hy220
        clear hy220
        replace H := Option.bind_eq_some_iff.mp H
        obtain ⟨t223, A100, H⟩ := H
        replace H : (if t223 = true then (if (t190.length : Int) = 2 then (if 1 < (t190.length : Int) then ((r05_Same.f k (rd_L6 t190 1) (([1, 2] : List Int))).bind fun t228 => (some t228)) else (none)) else (none)) else (none)) = some r := H
        have A10 := Zm A100
        clear A100
        by_cases c11 : t223 = true
        · subst c11
          have H1 : (if (t190.length : Int) = 2 then (if 1 < (t190.length : Int) then ((r05_Same.f k (rd_L6 t190 1) (([1, 2] : List Int))).bind fun t228 => (some t228)) else (none)) else (none)) = some r := by rw [if_pos rfl] at H; exact H
          clear H
          have H := H1
          clear H1
          by_cases c12 : (t190.length : Int) = 2
          · rw [if_pos c12] at H
            have c12b0 : ((t190.length : Int) == 2) = true := beq_iff_eq.mpr c12
            have c12b1 : ((t190.length : Int) != 2) = false := bne_eq_false_iff_eq.mpr c12
            clear c12
            by_cases c13 : 1 < (t190.length : Int)
            · rw [if_pos c13] at H
              have c13b0 : decide (1 < (t190.length : Int)) = true := decide_eq_true c13
              have c13b1 : decide (1 < t190.length) = true := decide_eq_true (by omega)
              clear c13
              obtain ⟨y225, hy225⟩ : ∃ y_ : List Int, y_ = (([1, 2] : List Int)) := ⟨_, rfl⟩
              replace H : ((r05_Same.f k (rd_L6 t190 1) y225).bind fun t228 => (some t228)) = some r := by first | (rw [hy225]; with_reducible exact H) | (have H2_ := (Option.bind_some _ _).symm.trans H; rw [hy225]; with_reducible exact H2_) | (have H2_ := (Option.bind_some _ _).symm.trans H; with_reducible exact H2_) | with_reducible exact H | (rw [hy225]; exact H) | exact H
              have Ny225 := Zm hy225
              clear hy225
              replace H := Option.bind_eq_some_iff.mp H
              obtain ⟨t228, A140, H⟩ := H
              replace H : (some t228) = some r := H
              have A14 := Zm A140
              clear A140
              obtain rfl := Option.some.inj H
              go_enter Try.func8, Try.ntmps8
              go_wp2_with (first | ((with_reducible refine gate_dst (N := 3) rfl ?_); (try (refine gate_guard (by rfl) ?_; dsimp only)); refine Kd.R_lit (Kd.int .i64) _ 3 ?hg (N := 3) ?hd (xs := ([1, 2, 3, 2] : List Int)) (inner := [.int .i64 1, .int .i64 2, .int .i64 3, .int .i64 2]) (ok := fun _ => True) (okp := fun _ => True) ?hr ?hp (fun _ hk => hk) trivial (Below.refl _ _) (Nat.le_refl _) (by simp) ?_; (case hd => rfl); (case hg => rfl); (case hr => first | (go_simp; done) | (go_simp; rfl)); (case hp => exact (Reps.one (show Kd.M (Kd.int .i64) _ _ _ 1 [.int .i64 1] from rfl) (Reps.one (show Kd.M (Kd.int .i64) _ _ _ 2 [.int .i64 2] from rfl) (Reps.one (show Kd.M (Kd.int .i64) _ _ _ 3 [.int .i64 3] from rfl) (Reps.one (show Kd.M (Kd.int .i64) _ _ _ 2 [.int .i64 2] from rfl) (Reps.none _ _)))))); intro v173 w15 ho16 hb hg_ hnew_; clear hg_ hnew_; (first | rw [← Ny172.out] at ho16 | (simp only [Int.reduceToNat] at ho16; rw [← Ny172.out] at ho16)); have n0_ := Zm (Kd.R_lower ho16 (below_size (by repeat (first | (with_reducible first | exact HB.out | apply below_alloc | apply Zd | apply below_drew1) | exact HB.out)))); have n1_ := Zm (below_step (by repeat (first | (with_reducible first | exact HB.out | apply below_alloc | apply Zd | apply below_drew1) | exact HB.out)) hb); clear HB; have HO174 := n0_; have HB := n1_; clear n0_ n1_; clear hb ho16) | ((with_reducible refine gate_dst (N := 4) rfl ?_); (try (refine gate_guard (by rfl) ?_; dsimp only)); refine Kd.R_lit (Kd.int .i64) _ 3 ?hg (N := 4) ?hd (xs := ([2, 3, 1, 2] : List Int)) (inner := [.int .i64 2, .int .i64 3, .int .i64 1, .int .i64 2]) (ok := fun _ => True) (okp := fun _ => True) ?hr ?hp (fun _ hk => hk) trivial (Below.refl _ _) (Nat.le_refl _) (by simp) ?_; (case hd => rfl); (case hg => rfl); (case hr => first | (go_simp; done) | (go_simp; rfl)); (case hp => exact (Reps.one (show Kd.M (Kd.int .i64) _ _ _ 2 [.int .i64 2] from rfl) (Reps.one (show Kd.M (Kd.int .i64) _ _ _ 3 [.int .i64 3] from rfl) (Reps.one (show Kd.M (Kd.int .i64) _ _ _ 1 [.int .i64 1] from rfl) (Reps.one (show Kd.M (Kd.int .i64) _ _ _ 2 [.int .i64 2] from rfl) (Reps.none _ _)))))); intro v176 w17 ho18 hb hg_ hnew_; clear hg_ hnew_; (first | rw [← Ny175.out] at ho18 | (simp only [Int.reduceToNat] at ho18; rw [← Ny175.out] at ho18)); have n0_ := Zm (Kd.R_elder' (by (with_reducible repeat (first | apply Kd.R_alloc | apply Kd.R_drewN | apply Kd.R_drew)); exact HO174.out) (Kd.R_base ho18) hb); have n1_ := Zm (Kd.R_lower (Kd.R_new' ho18 (Kd.R_lt (by (with_reducible repeat (first | apply Kd.R_alloc | apply Kd.R_drewN | apply Kd.R_drew)); exact HO174.out))) (below_size (by repeat (first | (with_reducible first | exact HB.out | apply below_alloc | apply Zd | apply below_drew1) | exact HB.out)))); have n2_ := Zm (below_step (by repeat (first | (with_reducible first | exact HB.out | apply below_alloc | apply Zd | apply below_drew1) | exact HB.out)) hb); clear HO174; clear HB; have HO174 := n0_; have HO177 := n1_; have HB := n2_; clear n0_ n1_ n2_; clear hb ho18; obtain ⟨Ao19, co19, eo19⟩ := Kd.R_slice HO174.out; subst eo19; obtain ⟨Ao20, co20, eo20⟩ := Kd.R_slice HO177.out; subst eo20) | ((with_reducible refine gate_callee (f := 10) rfl ?_); refine goesL_ (some 5) rfl rfl Try.func10 (by kernel_rfl) rfl #[.slice Ao19 y172.length co19, .slice Ao20 y175.length co20] rfl (by (try simp only [List.map_toArray, List.map_cons, List.map_nil]); first | done | rfl | (simp only [List.length_drop, List.length_take]; rfl)) ?_; (with_reducible refine (lcs_Match.calls k _ _ y172 _ _ y175 t178 _ ?side1 ?side2 ?side3 ?side4 A1.out).mono ?_); (case side1 => repeat (first | exact (Kd.R_reads' HO174.out).2.2 | (with_reducible refine Kd.C_alloc ?_ _) | (with_reducible refine Kd.C_drewN ?_ _) | (with_reducible refine Kd.C_drew ?_))); (case side2 => exact (Kd.R_reads' HO174.out).2.1); (case side3 => repeat (first | exact (Kd.R_reads' HO177.out).2.2 | (with_reducible refine Kd.C_alloc ?_ _) | (with_reducible refine Kd.C_drewN ?_ _) | (with_reducible refine Kd.C_drew ?_))); (case side4 => exact (Kd.R_reads' HO177.out).2.1); rintro e w21 ⟨v179, rfl, ho0, hb⟩; refine ⟨_, rfl, ?_⟩; have n0_ := Zm (Kd.R_elder' (by (with_reducible repeat (first | apply Kd.R_alloc | apply Kd.R_drewN | apply Kd.R_drew)); exact HO174.out) (Kd.R_base ho0) hb); have n1_ := Zm (Kd.R_elder' (by (with_reducible repeat (first | apply Kd.R_alloc | apply Kd.R_drewN | apply Kd.R_drew)); exact HO177.out) (Kd.R_base ho0) hb); have n2_ := Zm (Kd.R_lower (Kd.R_new' (Kd.R_new' ho0 (Kd.R_lt (by (with_reducible repeat (first | apply Kd.R_alloc | apply Kd.R_drewN | apply Kd.R_drew)); exact HO174.out))) (Kd.R_lt (by (with_reducible repeat (first | apply Kd.R_alloc | apply Kd.R_drewN | apply Kd.R_drew)); exact HO177.out))) (below_size (by repeat (first | (with_reducible first | exact HB.out | apply below_alloc | apply Zd | apply below_drew1) | exact HB.out)))); have n3_ := Zm (below_step (by repeat (first | (with_reducible first | exact HB.out | apply below_alloc | apply Zd | apply below_drew1) | exact HB.out)) hb); clear HO174; clear HO177; clear HB; have HO174 := n0_; have HO177 := n1_; have HO180 := n2_; have HB := n3_; clear n0_ n1_ n2_ n3_; (try clear hb); (try clear hb2); (try clear hk); (try clear hi); (try clear ho0)) | ((with_reducible refine gate_dst (N := 6) rfl ?_); (try (refine gate_guard (by rfl) ?_; dsimp only)); refine Kd.R_lit Kd.string _ 9 ?hg (N := 6) ?hd (xs := ([(⟨#[98]⟩ : ByteArray), (⟨#[97]⟩ : ByteArray)] : List ByteArray)) (inner := [.string (⟨#[98]⟩ : ByteArray), .string (⟨#[97]⟩ : ByteArray)]) (ok := fun _ => True) (okp := fun _ => True) ?hr ?hp (fun _ hk => hk) trivial (Below.refl _ _) (Nat.le_refl _) (by simp) ?_; (case hd => rfl); (case hg => rfl); (case hr => first | (go_simp; done) | (go_simp; rfl)); (case hp => exact (Reps.one (show Kd.M Kd.string _ _ _ (⟨#[98]⟩ : ByteArray) [.string (⟨#[98]⟩ : ByteArray)] from rfl) (Reps.one (show Kd.M Kd.string _ _ _ (⟨#[97]⟩ : ByteArray) [.string (⟨#[97]⟩ : ByteArray)] from rfl) (Reps.none _ _)))); intro v182 w22 ho23 hb hg_ hnew_; clear hg_ hnew_; (first | rw [← Ny181.out] at ho23 | (simp only [Int.reduceToNat] at ho23; rw [← Ny181.out] at ho23)); have n0_ := Zm (Kd.R_below (by (with_reducible repeat (first | apply Kd.R_alloc | apply Kd.R_drewN | apply Kd.R_drew)); exact HO174.out) hb); have n1_ := Zm (Kd.R_below (by (with_reducible repeat (first | apply Kd.R_alloc | apply Kd.R_drewN | apply Kd.R_drew)); exact HO177.out) hb); have n2_ := Zm (Kd.R_below (by (with_reducible repeat (first | apply Kd.R_alloc | apply Kd.R_drewN | apply Kd.R_drew)); exact HO180.out) hb); have n3_ := Zm (Kd.R_lower ho23 (below_size (by repeat (first | (with_reducible first | exact HB.out | apply below_alloc | apply Zd | apply below_drew1) | exact HB.out)))); have n4_ := Zm (below_step (by repeat (first | (with_reducible first | exact HB.out | apply below_alloc | apply Zd | apply below_drew1) | exact HB.out)) hb); clear HO174; clear HO177; clear HO180; clear HB; have HO174 := n0_; have HO177 := n1_; have HO180 := n2_; have HO183 := n3_; have HB := n4_; clear n0_ n1_ n2_ n3_ n4_; clear hb ho23) | ((with_reducible refine gate_dst (N := 7) rfl ?_); (try (refine gate_guard (by rfl) ?_; dsimp only)); refine Kd.R_lit Kd.string _ 9 ?hg (N := 7) ?hd (xs := ([(⟨#[97]⟩ : ByteArray), (⟨#[99]⟩ : ByteArray)] : List ByteArray)) (inner := [.string (⟨#[97]⟩ : ByteArray), .string (⟨#[99]⟩ : ByteArray)]) (ok := fun _ => True) (okp := fun _ => True) ?hr ?hp (fun _ hk => hk) trivial (Below.refl _ _) (Nat.le_refl _) (by simp) ?_; (case hd => rfl); (case hg => rfl); (case hr => first | (go_simp; done) | (go_simp; rfl)); (case hp => exact (Reps.one (show Kd.M Kd.string _ _ _ (⟨#[97]⟩ : ByteArray) [.string (⟨#[97]⟩ : ByteArray)] from rfl) (Reps.one (show Kd.M Kd.string _ _ _ (⟨#[99]⟩ : ByteArray) [.string (⟨#[99]⟩ : ByteArray)] from rfl) (Reps.none _ _)))); intro v185 w24 ho25 hb hg_ hnew_; clear hg_ hnew_; (first | rw [← Ny184.out] at ho25 | (simp only [Int.reduceToNat] at ho25; rw [← Ny184.out] at ho25)); have n0_ := Zm (Kd.R_below (by (with_reducible repeat (first | apply Kd.R_alloc | apply Kd.R_drewN | apply Kd.R_drew)); exact HO174.out) hb); have n1_ := Zm (Kd.R_below (by (with_reducible repeat (first | apply Kd.R_alloc | apply Kd.R_drewN | apply Kd.R_drew)); exact HO177.out) hb); have n2_ := Zm (Kd.R_below (by (with_reducible repeat (first | apply Kd.R_alloc | apply Kd.R_drewN | apply Kd.R_drew)); exact HO180.out) hb); have n3_ := Zm (Kd.R_elder' (by (with_reducible repeat (first | apply Kd.R_alloc | apply Kd.R_drewN | apply Kd.R_drew)); exact HO183.out) (Kd.R_base ho25) hb); have n4_ := Zm (Kd.R_lower (Kd.R_new' ho25 (Kd.R_lt (by (with_reducible repeat (first | apply Kd.R_alloc | apply Kd.R_drewN | apply Kd.R_drew)); exact HO183.out))) (below_size (by repeat (first | (with_reducible first | exact HB.out | apply below_alloc | apply Zd | apply below_drew1) | exact HB.out)))); have n5_ := Zm (below_step (by repeat (first | (with_reducible first | exact HB.out | apply below_alloc | apply Zd | apply below_drew1) | exact HB.out)) hb); clear HO174; clear HO177; clear HO180; clear HO183; clear HB; have HO174 := n0_; have HO177 := n1_; have HO180 := n2_; have HO183 := n3_; have HO186 := n4_; have HB := n5_; clear n0_ n1_ n2_ n3_ n4_ n5_; clear hb ho25; obtain ⟨Ao26, co26, eo26⟩ := Kd.R_slice HO183.out; subst eo26; obtain ⟨Ao27, co27, eo27⟩ := Kd.R_slice HO186.out; subst eo27) | ((with_reducible refine gate_dst (N := 8) rfl ?_); (try (refine gate_guard (by rfl) ?_; dsimp only)); refine Kd.N_lit (Kd.slice 9 Kd.string) _ 27 ?hg (N' := 8) ?hd (xs := ([y181, y184] : List (List ByteArray))) (inner := [.slice Ao26 y181.length co26, .slice Ao27 y184.length co27]) (ok := (fun k_ => some k_ ≠ (.slice Ao19 y172.length co19 : Value).ownBlock ∧ some k_ ≠ (.slice Ao20 y175.length co20 : Value).ownBlock ∧ some k_ ≠ (v179 : Value).ownBlock)) (okp := (fun k_ => some k_ ≠ (.slice Ao19 y172.length co19 : Value).ownBlock ∧ some k_ ≠ (.slice Ao20 y175.length co20 : Value).ownBlock ∧ some k_ ≠ (v179 : Value).ownBlock)) ?hr ?hp (fun _ hk => hk) ((show ∀ k_, w24.heap.size ≤ k_ → (fun k_ => some k_ ≠ (.slice Ao19 y172.length co19 : Value).ownBlock ∧ some k_ ≠ (.slice Ao20 y175.length co20 : Value).ownBlock ∧ some k_ ≠ (v179 : Value).ownBlock) k_ from fun k_ hk => ⟨Kd.fresh' (Kd.R_lt (by (with_reducible repeat (first | apply Kd.R_alloc | apply Kd.R_drewN | apply Kd.R_drew)); exact HO174.out)) k_ hk, Kd.fresh' (Kd.R_lt (by (with_reducible repeat (first | apply Kd.R_alloc | apply Kd.R_drewN | apply Kd.R_drew)); exact HO177.out)) k_ hk, Kd.fresh' (Kd.R_lt (by (with_reducible repeat (first | apply Kd.R_alloc | apply Kd.R_drewN | apply Kd.R_drew)); exact HO180.out)) k_ hk⟩) _ (Nat.le_refl _)) (Below.refl _ _) (Nat.le_refl _) (by simp) ?_; (case hd => rfl); (case hg => rfl); (case hr => first | (go_simp; done) | (go_simp; rfl)); (case hp => exact (Reps.one (show Kd.FK (Kd.slice 9 Kd.string) _ _ y181 [.slice Ao26 y181.length co26] from (Kd.FK_slice_mk (Kd.R_reads' (Kd.R_mono (ok' := (fun k_ => some k_ ≠ (.slice Ao19 y172.length co19 : Value).ownBlock ∧ some k_ ≠ (.slice Ao20 y175.length co20 : Value).ownBlock ∧ some k_ ≠ (v179 : Value).ownBlock)) (Kd.R_apart' (Kd.R_apart' (Kd.R_apart' (HO183.out) (Kd.R_typed HO174.out) (by decide)) (Kd.R_typed HO177.out) (by decide)) (Kd.R_typed HO180.out) (by decide)) (fun k_ hk => ⟨hk.1.1.2, ⟨hk.1.2, hk.2⟩⟩))).2.1 (Kd.R_F (Kd.R_mono (ok' := (fun k_ => some k_ ≠ (.slice Ao19 y172.length co19 : Value).ownBlock ∧ some k_ ≠ (.slice Ao20 y175.length co20 : Value).ownBlock ∧ some k_ ≠ (v179 : Value).ownBlock)) (Kd.R_apart' (Kd.R_apart' (Kd.R_apart' (HO183.out) (Kd.R_typed HO174.out) (by decide)) (Kd.R_typed HO177.out) (by decide)) (Kd.R_typed HO180.out) (by decide)) (fun k_ hk => ⟨hk.1.1.2, ⟨hk.1.2, hk.2⟩⟩))))) (Reps.one (show Kd.FK (Kd.slice 9 Kd.string) _ _ y184 [.slice Ao27 y184.length co27] from (Kd.FK_slice_mk (Kd.R_reads' (Kd.R_mono (ok' := (fun k_ => some k_ ≠ (.slice Ao19 y172.length co19 : Value).ownBlock ∧ some k_ ≠ (.slice Ao20 y175.length co20 : Value).ownBlock ∧ some k_ ≠ (v179 : Value).ownBlock)) (Kd.R_apart' (Kd.R_apart' (Kd.R_apart' (HO186.out) (Kd.R_typed HO174.out) (by decide)) (Kd.R_typed HO177.out) (by decide)) (Kd.R_typed HO180.out) (by decide)) (fun k_ hk => ⟨hk.1.1.2, ⟨hk.1.2, hk.2⟩⟩))).2.1 (Kd.R_F (Kd.R_mono (ok' := (fun k_ => some k_ ≠ (.slice Ao19 y172.length co19 : Value).ownBlock ∧ some k_ ≠ (.slice Ao20 y175.length co20 : Value).ownBlock ∧ some k_ ≠ (v179 : Value).ownBlock)) (Kd.R_apart' (Kd.R_apart' (Kd.R_apart' (HO186.out) (Kd.R_typed HO174.out) (by decide)) (Kd.R_typed HO177.out) (by decide)) (Kd.R_typed HO180.out) (by decide)) (fun k_ hk => ⟨hk.1.1.2, ⟨hk.1.2, hk.2⟩⟩))))) (Reps.none _ _)))); intro v188 w28 ho29 hb hg_ hnew_; clear hg_ hnew_; (first | rw [← Ny187.out] at ho29 | (simp only [Int.reduceToNat] at ho29; rw [← Ny187.out] at ho29)); have n0_ := Zm (Kd.R_below (by (with_reducible repeat (first | apply Kd.R_alloc | apply Kd.R_drewN | apply Kd.R_drew)); exact HO174.out) hb); have n1_ := Zm (Kd.R_below (by (with_reducible repeat (first | apply Kd.R_alloc | apply Kd.R_drewN | apply Kd.R_drew)); exact HO177.out) hb); have n2_ := Zm (Kd.R_below (by (with_reducible repeat (first | apply Kd.R_alloc | apply Kd.R_drewN | apply Kd.R_drew)); exact HO180.out) hb); have n3_ := Zm (Kd.N_lower ho29 (below_size (by repeat (first | (with_reducible first | exact HB.out | apply below_alloc | apply Zd | apply below_drew1) | exact HB.out)))); have n4_ := Zm (below_step (by repeat (first | (with_reducible first | exact HB.out | apply below_alloc | apply Zd | apply below_drew1) | exact HB.out)) hb); clear HO174; clear HO177; clear HO180; clear HB; clear HO183; clear HO186; have HO174 := n0_; have HO177 := n1_; have HO180 := n2_; have HO189 := n3_; have HB := n4_; clear n0_ n1_ n2_ n3_ n4_; clear hb ho29; obtain ⟨Ao30, co30, eo30⟩ := Kd.N_slice HO189.out; subst eo30) | ((with_reducible refine gate_callee (f := 16) rfl ?_); refine goesL_ (some 9) rfl rfl Try.func16 (by kernel_rfl) rfl #[.slice Ao30 y187.length co30] rfl (by (try simp only [List.map_toArray, List.map_cons, List.map_nil]); first | done | rfl | (simp only [List.length_drop, List.length_take]; rfl)) ?_; (with_reducible refine (lcs_Numbers.calls k _ _ y187 t190 _ ?side1 ?side2 A2.out).mono ?_); (case side1 => repeat (first | exact (Kd.N_reads' HO189.out).2.2 | (with_reducible refine Kd.C_alloc ?_ _) | (with_reducible refine Kd.C_drewN ?_ _) | (with_reducible refine Kd.C_drew ?_))); (case side2 => exact (Kd.N_reads' HO189.out).2.1); rintro e w31 ⟨v191, rfl, ho0, hb⟩; refine ⟨_, rfl, ?_⟩; have n0_ := Zm (Kd.R_below (by (with_reducible repeat (first | apply Kd.R_alloc | apply Kd.R_drewN | apply Kd.R_drew)); exact HO174.out) hb); have n1_ := Zm (Kd.R_below (by (with_reducible repeat (first | apply Kd.R_alloc | apply Kd.R_drewN | apply Kd.R_drew)); exact HO177.out) hb); have n2_ := Zm (Kd.R_below (by (with_reducible repeat (first | apply Kd.R_alloc | apply Kd.R_drewN | apply Kd.R_drew)); exact HO180.out) hb); have n3_ := Zm (Kd.N_elder' (by (with_reducible repeat (first | apply Kd.N_alloc | apply Kd.N_drewN | apply Kd.N_drew)); exact HO189.out) (by first | exact Kd.N_base ho0 | exact Kd.S_base ho0 | exact Kd.R_base ho0) hb); have n4_ := Zm (Kd.N_lower (Kd.N_mono (ok' := fun k_ => some k_ ≠ (.slice Ao19 y172.length co19 : Value).ownBlock ∧ some k_ ≠ (.slice Ao20 y175.length co20 : Value).ownBlock ∧ some k_ ≠ (v179 : Value).ownBlock ∧ some k_ ≠ (.slice Ao30 y187.length co30 : Value).ownBlock) (Kd.S_N (Kd.S_bound ho0)) (fun k_ hk_ => ⟨(Kd.fresh' (Kd.R_lt (by (with_reducible repeat (first | apply Kd.R_alloc | apply Kd.R_drewN | apply Kd.R_drew)); exact HO174.out)) k_ hk_.2.1), (Kd.fresh' (Kd.R_lt (by (with_reducible repeat (first | apply Kd.R_alloc | apply Kd.R_drewN | apply Kd.R_drew)); exact HO177.out)) k_ hk_.2.1), (Kd.fresh' (Kd.R_lt (by (with_reducible repeat (first | apply Kd.R_alloc | apply Kd.R_drewN | apply Kd.R_drew)); exact HO180.out)) k_ hk_.2.1), (Kd.fresh' (Kd.N_lt (by (with_reducible repeat (first | apply Kd.N_alloc | apply Kd.N_drewN | apply Kd.N_drew)); exact HO189.out)) k_ hk_.2.1)⟩)) (below_size (by repeat (first | (with_reducible first | exact HB.out | apply below_alloc | apply Zd | apply below_drew1) | exact HB.out)))); have n5_ := Zm (below_step (by repeat (first | (with_reducible first | exact HB.out | apply below_alloc | apply Zd | apply below_drew1) | exact HB.out)) hb); clear HO174; clear HO177; clear HO180; clear HO189; clear HB; have HO174 := n0_; have HO177 := n1_; have HO180 := n2_; have HO189 := n3_; have HO192 := n4_; have HB := n5_; clear n0_ n1_ n2_ n3_ n4_ n5_; (try clear hb); (try clear hb2); (try clear hk); (try clear hi); (try clear ho0)) | ((with_reducible refine gate_dst (N := 11) rfl ?_); (try (refine gate_guard (by rfl) ?_; dsimp only)); refine Kd.R_lit (Kd.int .i64) _ 3 ?hg (N := 11) ?hd (xs := ([(-1), 0, 1, 3] : List Int)) (inner := [.int .i64 (-1), .int .i64 0, .int .i64 1, .int .i64 3]) (ok := fun _ => True) (okp := fun _ => True) ?hr ?hp (fun _ hk => hk) trivial (Below.refl _ _) (Nat.le_refl _) (by simp) ?_; (case hd => rfl); (case hg => rfl); (case hr => first | (go_simp; done) | (go_simp; rfl)); (case hp => exact (Reps.one (show Kd.M (Kd.int .i64) _ _ _ (-1) [.int .i64 (-1)] from rfl) (Reps.one (show Kd.M (Kd.int .i64) _ _ _ 0 [.int .i64 0] from rfl) (Reps.one (show Kd.M (Kd.int .i64) _ _ _ 1 [.int .i64 1] from rfl) (Reps.one (show Kd.M (Kd.int .i64) _ _ _ 3 [.int .i64 3] from rfl) (Reps.none _ _)))))); intro v194 w32 ho33 hb hg_ hnew_; clear hg_ hnew_; (first | rw [← Ny193.out] at ho33 | (simp only [Int.reduceToNat] at ho33; rw [← Ny193.out] at ho33)); have n0_ := Zm (Kd.R_elder' (by (with_reducible repeat (first | apply Kd.R_alloc | apply Kd.R_drewN | apply Kd.R_drew)); exact HO174.out) (Kd.R_base ho33) hb); have n1_ := Zm (Kd.R_elder' (by (with_reducible repeat (first | apply Kd.R_alloc | apply Kd.R_drewN | apply Kd.R_drew)); exact HO177.out) (Kd.R_base ho33) hb); have n2_ := Zm (Kd.R_elder' (by (with_reducible repeat (first | apply Kd.R_alloc | apply Kd.R_drewN | apply Kd.R_drew)); exact HO180.out) (Kd.R_base ho33) hb); have n3_ := Zm (Kd.N_elder' (by (with_reducible repeat (first | apply Kd.N_alloc | apply Kd.N_drewN | apply Kd.N_drew)); exact HO189.out) (Kd.R_base ho33) hb); have n4_ := Zm (Kd.N_elder' (by (with_reducible repeat (first | apply Kd.N_alloc | apply Kd.N_drewN | apply Kd.N_drew)); exact HO192.out) (Kd.R_base ho33) hb); have n5_ := Zm (Kd.R_lower (Kd.R_new' (Kd.R_new' (Kd.R_new' ho33 (Kd.R_lt (by (with_reducible repeat (first | apply Kd.R_alloc | apply Kd.R_drewN | apply Kd.R_drew)); exact HO174.out))) (Kd.R_lt (by (with_reducible repeat (first | apply Kd.R_alloc | apply Kd.R_drewN | apply Kd.R_drew)); exact HO177.out))) (Kd.R_lt (by (with_reducible repeat (first | apply Kd.R_alloc | apply Kd.R_drewN | apply Kd.R_drew)); exact HO180.out))) (below_size (by repeat (first | (with_reducible first | exact HB.out | apply below_alloc | apply Zd | apply below_drew1) | exact HB.out)))); have n6_ := Zm (below_step (by repeat (first | (with_reducible first | exact HB.out | apply below_alloc | apply Zd | apply below_drew1) | exact HB.out)) hb); clear HO174; clear HO177; clear HO180; clear HO189; clear HO192; clear HB; have HO174 := n0_; have HO177 := n1_; have HO180 := n2_; have HO189 := n3_; have HO192 := n4_; have HO195 := n5_; have HB := n6_; clear n0_ n1_ n2_ n3_ n4_ n5_ n6_; clear hb ho33; obtain ⟨Ao34, co34, eo34⟩ := Kd.R_slice HO180.out; subst eo34; obtain ⟨Ao35, co35, eo35⟩ := Kd.R_slice HO195.out; subst eo35) | ((with_reducible refine gate_callee (f := 9) rfl ?_); refine goesL_ (some 12) rfl rfl Try.func9 (by kernel_rfl) rfl #[.slice Ao34 t178.length co34, .slice Ao35 y193.length co35] rfl (by (try simp only [List.map_toArray, List.map_cons, List.map_nil]); first | done | rfl | (simp only [List.length_drop, List.length_take]; rfl)) ?_; (with_reducible refine (r05_Same.calls k _ _ t178 _ _ y193 true _ ?side1 ?side2 ?side3 ?side4 A3.out).mono ?_); (case side1 => repeat (first | exact (Kd.R_reads' HO180.out).2.2 | (with_reducible refine Kd.C_alloc ?_ _) | (with_reducible refine Kd.C_drewN ?_ _) | (with_reducible refine Kd.C_drew ?_))); (case side2 => exact (Kd.R_reads' HO180.out).2.1); (case side3 => repeat (first | exact (Kd.R_reads' HO195.out).2.2 | (with_reducible refine Kd.C_alloc ?_ _) | (with_reducible refine Kd.C_drewN ?_ _) | (with_reducible refine Kd.C_drew ?_))); (case side4 => exact (Kd.R_reads' HO195.out).2.1); rintro e w' ⟨rfl, ⟨nd, rfl⟩⟩; refine ⟨_, rfl, ?_⟩) | ((with_reducible refine gate_dst (N := 14) rfl ?_); (try (refine gate_guard (by rfl) ?_; dsimp only)); refine Kd.R_lit (Kd.int .i64) _ 3 ?hg (N := 14) ?hd (xs := ([1, 2, 3, 2] : List Int)) (inner := [.int .i64 1, .int .i64 2, .int .i64 3, .int .i64 2]) (ok := fun _ => True) (okp := fun _ => True) ?hr ?hp (fun _ hk => hk) trivial (Below.refl _ _) (Nat.le_refl _) (by simp) ?_; (case hd => rfl); (case hg => rfl); (case hr => first | (go_simp; done) | (go_simp; rfl)); (case hp => exact (Reps.one (show Kd.M (Kd.int .i64) _ _ _ 1 [.int .i64 1] from rfl) (Reps.one (show Kd.M (Kd.int .i64) _ _ _ 2 [.int .i64 2] from rfl) (Reps.one (show Kd.M (Kd.int .i64) _ _ _ 3 [.int .i64 3] from rfl) (Reps.one (show Kd.M (Kd.int .i64) _ _ _ 2 [.int .i64 2] from rfl) (Reps.none _ _)))))); intro v198 w36 ho37 hb hg_ hnew_; clear hg_ hnew_; (first | rw [← Ny197.out] at ho37 | (simp only [Int.reduceToNat] at ho37; rw [← Ny197.out] at ho37)); have n0_ := Zm (Kd.R_elder' (by (with_reducible repeat (first | apply Kd.R_alloc | apply Kd.R_drewN | apply Kd.R_drew)); exact HO174.out) (Kd.R_base ho37) hb); have n1_ := Zm (Kd.R_elder' (by (with_reducible repeat (first | apply Kd.R_alloc | apply Kd.R_drewN | apply Kd.R_drew)); exact HO177.out) (Kd.R_base ho37) hb); have n2_ := Zm (Kd.R_elder' (by (with_reducible repeat (first | apply Kd.R_alloc | apply Kd.R_drewN | apply Kd.R_drew)); exact HO180.out) (Kd.R_base ho37) hb); have n3_ := Zm (Kd.N_elder' (by (with_reducible repeat (first | apply Kd.N_alloc | apply Kd.N_drewN | apply Kd.N_drew)); exact HO189.out) (Kd.R_base ho37) hb); have n4_ := Zm (Kd.N_elder' (by (with_reducible repeat (first | apply Kd.N_alloc | apply Kd.N_drewN | apply Kd.N_drew)); exact HO192.out) (Kd.R_base ho37) hb); have n5_ := Zm (Kd.R_elder' (by (with_reducible repeat (first | apply Kd.R_alloc | apply Kd.R_drewN | apply Kd.R_drew)); exact HO195.out) (Kd.R_base ho37) hb); have n6_ := Zm (Kd.R_lower (Kd.R_new' (Kd.R_new' (Kd.R_new' (Kd.R_new' ho37 (Kd.R_lt (by (with_reducible repeat (first | apply Kd.R_alloc | apply Kd.R_drewN | apply Kd.R_drew)); exact HO174.out))) (Kd.R_lt (by (with_reducible repeat (first | apply Kd.R_alloc | apply Kd.R_drewN | apply Kd.R_drew)); exact HO177.out))) (Kd.R_lt (by (with_reducible repeat (first | apply Kd.R_alloc | apply Kd.R_drewN | apply Kd.R_drew)); exact HO180.out))) (Kd.R_lt (by (with_reducible repeat (first | apply Kd.R_alloc | apply Kd.R_drewN | apply Kd.R_drew)); exact HO195.out))) (below_size (by repeat (first | (with_reducible first | exact HB.out | apply below_alloc | apply Zd | apply below_drew1) | exact HB.out)))); have n7_ := Zm (below_step (by repeat (first | (with_reducible first | exact HB.out | apply below_alloc | apply Zd | apply below_drew1) | exact HB.out)) hb); clear HO174; clear HO177; clear HO180; clear HO189; clear HO192; clear HO195; clear HB; have HO174 := n0_; have HO177 := n1_; have HO180 := n2_; have HO189 := n3_; have HO192 := n4_; have HO195 := n5_; have HO199 := n6_; have HB := n7_; clear n0_ n1_ n2_ n3_ n4_ n5_ n6_ n7_; clear hb ho37) | ((with_reducible refine gate_dst (N := 15) rfl ?_); (try (refine gate_guard (by rfl) ?_; dsimp only)); refine Kd.R_lit (Kd.int .i64) _ 3 ?hg (N := 15) ?hd (xs := ([2, 3, 1, 2] : List Int)) (inner := [.int .i64 2, .int .i64 3, .int .i64 1, .int .i64 2]) (ok := fun _ => True) (okp := fun _ => True) ?hr ?hp (fun _ hk => hk) trivial (Below.refl _ _) (Nat.le_refl _) (by simp) ?_; (case hd => rfl); (case hg => rfl); (case hr => first | (go_simp; done) | (go_simp; rfl)); (case hp => exact (Reps.one (show Kd.M (Kd.int .i64) _ _ _ 2 [.int .i64 2] from rfl) (Reps.one (show Kd.M (Kd.int .i64) _ _ _ 3 [.int .i64 3] from rfl) (Reps.one (show Kd.M (Kd.int .i64) _ _ _ 1 [.int .i64 1] from rfl) (Reps.one (show Kd.M (Kd.int .i64) _ _ _ 2 [.int .i64 2] from rfl) (Reps.none _ _)))))); intro v201 w38 ho39 hb hg_ hnew_; clear hg_ hnew_; (first | rw [← Ny200.out] at ho39 | (simp only [Int.reduceToNat] at ho39; rw [← Ny200.out] at ho39)); have n0_ := Zm (Kd.R_elder' (by (with_reducible repeat (first | apply Kd.R_alloc | apply Kd.R_drewN | apply Kd.R_drew)); exact HO174.out) (Kd.R_base ho39) hb); have n1_ := Zm (Kd.R_elder' (by (with_reducible repeat (first | apply Kd.R_alloc | apply Kd.R_drewN | apply Kd.R_drew)); exact HO177.out) (Kd.R_base ho39) hb); have n2_ := Zm (Kd.R_elder' (by (with_reducible repeat (first | apply Kd.R_alloc | apply Kd.R_drewN | apply Kd.R_drew)); exact HO180.out) (Kd.R_base ho39) hb); have n3_ := Zm (Kd.N_elder' (by (with_reducible repeat (first | apply Kd.N_alloc | apply Kd.N_drewN | apply Kd.N_drew)); exact HO189.out) (Kd.R_base ho39) hb); have n4_ := Zm (Kd.N_elder' (by (with_reducible repeat (first | apply Kd.N_alloc | apply Kd.N_drewN | apply Kd.N_drew)); exact HO192.out) (Kd.R_base ho39) hb); have n5_ := Zm (Kd.R_elder' (by (with_reducible repeat (first | apply Kd.R_alloc | apply Kd.R_drewN | apply Kd.R_drew)); exact HO195.out) (Kd.R_base ho39) hb); have n6_ := Zm (Kd.R_elder' (by (with_reducible repeat (first | apply Kd.R_alloc | apply Kd.R_drewN | apply Kd.R_drew)); exact HO199.out) (Kd.R_base ho39) hb); have n7_ := Zm (Kd.R_lower (Kd.R_new' (Kd.R_new' (Kd.R_new' (Kd.R_new' (Kd.R_new' ho39 (Kd.R_lt (by (with_reducible repeat (first | apply Kd.R_alloc | apply Kd.R_drewN | apply Kd.R_drew)); exact HO174.out))) (Kd.R_lt (by (with_reducible repeat (first | apply Kd.R_alloc | apply Kd.R_drewN | apply Kd.R_drew)); exact HO177.out))) (Kd.R_lt (by (with_reducible repeat (first | apply Kd.R_alloc | apply Kd.R_drewN | apply Kd.R_drew)); exact HO180.out))) (Kd.R_lt (by (with_reducible repeat (first | apply Kd.R_alloc | apply Kd.R_drewN | apply Kd.R_drew)); exact HO195.out))) (Kd.R_lt (by (with_reducible repeat (first | apply Kd.R_alloc | apply Kd.R_drewN | apply Kd.R_drew)); exact HO199.out))) (below_size (by repeat (first | (with_reducible first | exact HB.out | apply below_alloc | apply Zd | apply below_drew1) | exact HB.out)))); have n8_ := Zm (below_step (by repeat (first | (with_reducible first | exact HB.out | apply below_alloc | apply Zd | apply below_drew1) | exact HB.out)) hb); clear HO174; clear HO177; clear HO180; clear HO189; clear HO192; clear HO195; clear HO199; clear HB; have HO174 := n0_; have HO177 := n1_; have HO180 := n2_; have HO189 := n3_; have HO192 := n4_; have HO195 := n5_; have HO199 := n6_; have HO202 := n7_; have HB := n8_; clear n0_ n1_ n2_ n3_ n4_ n5_ n6_ n7_ n8_; clear hb ho39; obtain ⟨Ao40, co40, eo40⟩ := Kd.R_slice HO199.out; subst eo40; obtain ⟨Ao41, co41, eo41⟩ := Kd.R_slice HO202.out; subst eo41) | (go_at_call 12; (with_reducible refine (lcs_Length.calls k _ _ y197 _ _ y200 t203 _ ?side1 ?side2 ?side3 ?side4 A5.out).mono ?_); (case side1 => repeat (first | exact (Kd.R_reads' HO199.out).2.2 | (with_reducible refine Kd.C_alloc ?_ _) | (with_reducible refine Kd.C_drewN ?_ _) | (with_reducible refine Kd.C_drew ?_))); (case side2 => exact (Kd.R_reads' HO199.out).2.1); (case side3 => repeat (first | exact (Kd.R_reads' HO202.out).2.2 | (with_reducible refine Kd.C_alloc ?_ _) | (with_reducible refine Kd.C_drewN ?_ _) | (with_reducible refine Kd.C_drew ?_))); (case side4 => exact (Kd.R_reads' HO202.out).2.1); rintro e w42 ⟨rfl, hb⟩; have n0_ := Zm (Kd.R_below (by (with_reducible repeat (first | apply Kd.R_alloc | apply Kd.R_drewN | apply Kd.R_drew)); exact HO174.out) hb); have n1_ := Zm (Kd.R_below (by (with_reducible repeat (first | apply Kd.R_alloc | apply Kd.R_drewN | apply Kd.R_drew)); exact HO177.out) hb); have n2_ := Zm (Kd.R_below (by (with_reducible repeat (first | apply Kd.R_alloc | apply Kd.R_drewN | apply Kd.R_drew)); exact HO180.out) hb); have n3_ := Zm (Kd.N_below (by (with_reducible repeat (first | apply Kd.N_alloc | apply Kd.N_drewN | apply Kd.N_drew)); exact HO189.out) hb); have n4_ := Zm (Kd.N_below (by (with_reducible repeat (first | apply Kd.N_alloc | apply Kd.N_drewN | apply Kd.N_drew)); exact HO192.out) hb); have n5_ := Zm (Kd.R_below (by (with_reducible repeat (first | apply Kd.R_alloc | apply Kd.R_drewN | apply Kd.R_drew)); exact HO195.out) hb); have n6_ := Zm (Kd.R_below (by (with_reducible repeat (first | apply Kd.R_alloc | apply Kd.R_drewN | apply Kd.R_drew)); exact HO199.out) hb); have n7_ := Zm (Kd.R_below (by (with_reducible repeat (first | apply Kd.R_alloc | apply Kd.R_drewN | apply Kd.R_drew)); exact HO202.out) hb); have n8_ := Zm (below_step (by repeat (first | (with_reducible first | exact HB.out | apply below_alloc | apply Zd | apply below_drew1) | exact HB.out)) hb); clear HO174; clear HO177; clear HO180; clear HO189; clear HO192; clear HO195; clear HO199; clear HO202; clear HB; have HO174 := n0_; have HO177 := n1_; have HO180 := n2_; have HO189 := n3_; have HO192 := n4_; have HO195 := n5_; have HO199 := n6_; have HO202 := n7_; have HB := n8_; clear n0_ n1_ n2_ n3_ n4_ n5_ n6_ n7_ n8_; (try clear hb); (try clear hb2); (try clear hk); (try clear hi)) | ((with_reducible refine gate_dst (N := 20) rfl ?_); (try (refine gate_guard (by rfl) ?_; dsimp only)); refine Kd.R_lit (Kd.int .i64) _ 3 ?hg (N := 20) ?hd (xs := ([1, 2, 3, 2] : List Int)) (inner := [.int .i64 1, .int .i64 2, .int .i64 3, .int .i64 2]) (ok := fun _ => True) (okp := fun _ => True) ?hr ?hp (fun _ hk => hk) trivial (Below.refl _ _) (Nat.le_refl _) (by simp) ?_; (case hd => rfl); (case hg => rfl); (case hr => first | (go_simp; done) | (go_simp; rfl)); (case hp => exact (Reps.one (show Kd.M (Kd.int .i64) _ _ _ 1 [.int .i64 1] from rfl) (Reps.one (show Kd.M (Kd.int .i64) _ _ _ 2 [.int .i64 2] from rfl) (Reps.one (show Kd.M (Kd.int .i64) _ _ _ 3 [.int .i64 3] from rfl) (Reps.one (show Kd.M (Kd.int .i64) _ _ _ 2 [.int .i64 2] from rfl) (Reps.none _ _)))))); intro v205 w43 ho44 hb hg_ hnew_; clear hg_ hnew_; (first | rw [← Ny204.out] at ho44 | (simp only [Int.reduceToNat] at ho44; rw [← Ny204.out] at ho44)); have n0_ := Zm (Kd.R_elder' (by (with_reducible repeat (first | apply Kd.R_alloc | apply Kd.R_drewN | apply Kd.R_drew)); exact HO174.out) (Kd.R_base ho44) hb); have n1_ := Zm (Kd.R_elder' (by (with_reducible repeat (first | apply Kd.R_alloc | apply Kd.R_drewN | apply Kd.R_drew)); exact HO177.out) (Kd.R_base ho44) hb); have n2_ := Zm (Kd.R_elder' (by (with_reducible repeat (first | apply Kd.R_alloc | apply Kd.R_drewN | apply Kd.R_drew)); exact HO180.out) (Kd.R_base ho44) hb); have n3_ := Zm (Kd.N_elder' (by (with_reducible repeat (first | apply Kd.N_alloc | apply Kd.N_drewN | apply Kd.N_drew)); exact HO189.out) (Kd.R_base ho44) hb); have n4_ := Zm (Kd.N_elder' (by (with_reducible repeat (first | apply Kd.N_alloc | apply Kd.N_drewN | apply Kd.N_drew)); exact HO192.out) (Kd.R_base ho44) hb); have n5_ := Zm (Kd.R_elder' (by (with_reducible repeat (first | apply Kd.R_alloc | apply Kd.R_drewN | apply Kd.R_drew)); exact HO195.out) (Kd.R_base ho44) hb); have n6_ := Zm (Kd.R_elder' (by (with_reducible repeat (first | apply Kd.R_alloc | apply Kd.R_drewN | apply Kd.R_drew)); exact HO199.out) (Kd.R_base ho44) hb); have n7_ := Zm (Kd.R_elder' (by (with_reducible repeat (first | apply Kd.R_alloc | apply Kd.R_drewN | apply Kd.R_drew)); exact HO202.out) (Kd.R_base ho44) hb); have n8_ := Zm (Kd.R_lower (Kd.R_new' (Kd.R_new' (Kd.R_new' (Kd.R_new' (Kd.R_new' (Kd.R_new' ho44 (Kd.R_lt (by (with_reducible repeat (first | apply Kd.R_alloc | apply Kd.R_drewN | apply Kd.R_drew)); exact HO174.out))) (Kd.R_lt (by (with_reducible repeat (first | apply Kd.R_alloc | apply Kd.R_drewN | apply Kd.R_drew)); exact HO177.out))) (Kd.R_lt (by (with_reducible repeat (first | apply Kd.R_alloc | apply Kd.R_drewN | apply Kd.R_drew)); exact HO180.out))) (Kd.R_lt (by (with_reducible repeat (first | apply Kd.R_alloc | apply Kd.R_drewN | apply Kd.R_drew)); exact HO195.out))) (Kd.R_lt (by (with_reducible repeat (first | apply Kd.R_alloc | apply Kd.R_drewN | apply Kd.R_drew)); exact HO199.out))) (Kd.R_lt (by (with_reducible repeat (first | apply Kd.R_alloc | apply Kd.R_drewN | apply Kd.R_drew)); exact HO202.out))) (below_size (by repeat (first | (with_reducible first | exact HB.out | apply below_alloc | apply Zd | apply below_drew1) | exact HB.out)))); have n9_ := Zm (below_step (by repeat (first | (with_reducible first | exact HB.out | apply below_alloc | apply Zd | apply below_drew1) | exact HB.out)) hb); clear HO174; clear HO177; clear HO180; clear HO189; clear HO192; clear HO195; clear HO199; clear HO202; clear HB; have HO174 := n0_; have HO177 := n1_; have HO180 := n2_; have HO189 := n3_; have HO192 := n4_; have HO195 := n5_; have HO199 := n6_; have HO202 := n7_; have HO206 := n8_; have HB := n9_; clear n0_ n1_ n2_ n3_ n4_ n5_ n6_ n7_ n8_ n9_; clear hb ho44) | ((with_reducible refine gate_dst (N := 21) rfl ?_); (try (refine gate_guard (by rfl) ?_; dsimp only)); refine Kd.R_lit (Kd.int .i64) _ 3 ?hg (N := 21) ?hd (xs := ([2, 3, 1, 2] : List Int)) (inner := [.int .i64 2, .int .i64 3, .int .i64 1, .int .i64 2]) (ok := fun _ => True) (okp := fun _ => True) ?hr ?hp (fun _ hk => hk) trivial (Below.refl _ _) (Nat.le_refl _) (by simp) ?_; (case hd => rfl); (case hg => rfl); (case hr => first | (go_simp; done) | (go_simp; rfl)); (case hp => exact (Reps.one (show Kd.M (Kd.int .i64) _ _ _ 2 [.int .i64 2] from rfl) (Reps.one (show Kd.M (Kd.int .i64) _ _ _ 3 [.int .i64 3] from rfl) (Reps.one (show Kd.M (Kd.int .i64) _ _ _ 1 [.int .i64 1] from rfl) (Reps.one (show Kd.M (Kd.int .i64) _ _ _ 2 [.int .i64 2] from rfl) (Reps.none _ _)))))); intro v208 w45 ho46 hb hg_ hnew_; clear hg_ hnew_; (first | rw [← Ny207.out] at ho46 | (simp only [Int.reduceToNat] at ho46; rw [← Ny207.out] at ho46)); have n0_ := Zm (Kd.R_elder' (by (with_reducible repeat (first | apply Kd.R_alloc | apply Kd.R_drewN | apply Kd.R_drew)); exact HO174.out) (Kd.R_base ho46) hb); have n1_ := Zm (Kd.R_elder' (by (with_reducible repeat (first | apply Kd.R_alloc | apply Kd.R_drewN | apply Kd.R_drew)); exact HO177.out) (Kd.R_base ho46) hb); have n2_ := Zm (Kd.R_elder' (by (with_reducible repeat (first | apply Kd.R_alloc | apply Kd.R_drewN | apply Kd.R_drew)); exact HO180.out) (Kd.R_base ho46) hb); have n3_ := Zm (Kd.N_elder' (by (with_reducible repeat (first | apply Kd.N_alloc | apply Kd.N_drewN | apply Kd.N_drew)); exact HO189.out) (Kd.R_base ho46) hb); have n4_ := Zm (Kd.N_elder' (by (with_reducible repeat (first | apply Kd.N_alloc | apply Kd.N_drewN | apply Kd.N_drew)); exact HO192.out) (Kd.R_base ho46) hb); have n5_ := Zm (Kd.R_elder' (by (with_reducible repeat (first | apply Kd.R_alloc | apply Kd.R_drewN | apply Kd.R_drew)); exact HO195.out) (Kd.R_base ho46) hb); have n6_ := Zm (Kd.R_elder' (by (with_reducible repeat (first | apply Kd.R_alloc | apply Kd.R_drewN | apply Kd.R_drew)); exact HO199.out) (Kd.R_base ho46) hb); have n7_ := Zm (Kd.R_elder' (by (with_reducible repeat (first | apply Kd.R_alloc | apply Kd.R_drewN | apply Kd.R_drew)); exact HO202.out) (Kd.R_base ho46) hb); have n8_ := Zm (Kd.R_elder' (by (with_reducible repeat (first | apply Kd.R_alloc | apply Kd.R_drewN | apply Kd.R_drew)); exact HO206.out) (Kd.R_base ho46) hb); have n9_ := Zm (Kd.R_lower (Kd.R_new' (Kd.R_new' (Kd.R_new' (Kd.R_new' (Kd.R_new' (Kd.R_new' (Kd.R_new' ho46 (Kd.R_lt (by (with_reducible repeat (first | apply Kd.R_alloc | apply Kd.R_drewN | apply Kd.R_drew)); exact HO174.out))) (Kd.R_lt (by (with_reducible repeat (first | apply Kd.R_alloc | apply Kd.R_drewN | apply Kd.R_drew)); exact HO177.out))) (Kd.R_lt (by (with_reducible repeat (first | apply Kd.R_alloc | apply Kd.R_drewN | apply Kd.R_drew)); exact HO180.out))) (Kd.R_lt (by (with_reducible repeat (first | apply Kd.R_alloc | apply Kd.R_drewN | apply Kd.R_drew)); exact HO195.out))) (Kd.R_lt (by (with_reducible repeat (first | apply Kd.R_alloc | apply Kd.R_drewN | apply Kd.R_drew)); exact HO199.out))) (Kd.R_lt (by (with_reducible repeat (first | apply Kd.R_alloc | apply Kd.R_drewN | apply Kd.R_drew)); exact HO202.out))) (Kd.R_lt (by (with_reducible repeat (first | apply Kd.R_alloc | apply Kd.R_drewN | apply Kd.R_drew)); exact HO206.out))) (below_size (by repeat (first | (with_reducible first | exact HB.out | apply below_alloc | apply Zd | apply below_drew1) | exact HB.out)))); have n10_ := Zm (below_step (by repeat (first | (with_reducible first | exact HB.out | apply below_alloc | apply Zd | apply below_drew1) | exact HB.out)) hb); clear HO174; clear HO177; clear HO180; clear HO189; clear HO192; clear HO195; clear HO199; clear HO202; clear HO206; clear HB; have HO174 := n0_; have HO177 := n1_; have HO180 := n2_; have HO189 := n3_; have HO192 := n4_; have HO195 := n5_; have HO199 := n6_; have HO202 := n7_; have HO206 := n8_; have HO209 := n9_; have HB := n10_; clear n0_ n1_ n2_ n3_ n4_ n5_ n6_ n7_ n8_ n9_ n10_; clear hb ho46; obtain ⟨Ao47, co47, eo47⟩ := Kd.R_slice HO206.out; subst eo47; obtain ⟨Ao48, co48, eo48⟩ := Kd.R_slice HO209.out; subst eo48) | (go_at_call 14; (with_reducible refine (lcs_Percent.calls k _ _ y204 _ _ y207 t210 _ ?side1 ?side2 ?side3 ?side4 A7.out).mono ?_); (case side1 => repeat (first | exact (Kd.R_reads' HO206.out).2.2 | (with_reducible refine Kd.C_alloc ?_ _) | (with_reducible refine Kd.C_drewN ?_ _) | (with_reducible refine Kd.C_drew ?_))); (case side2 => exact (Kd.R_reads' HO206.out).2.1); (case side3 => repeat (first | exact (Kd.R_reads' HO209.out).2.2 | (with_reducible refine Kd.C_alloc ?_ _) | (with_reducible refine Kd.C_drewN ?_ _) | (with_reducible refine Kd.C_drew ?_))); (case side4 => exact (Kd.R_reads' HO209.out).2.1); rintro e w49 ⟨rfl, hb⟩; have n0_ := Zm (Kd.R_below (by (with_reducible repeat (first | apply Kd.R_alloc | apply Kd.R_drewN | apply Kd.R_drew)); exact HO174.out) hb); have n1_ := Zm (Kd.R_below (by (with_reducible repeat (first | apply Kd.R_alloc | apply Kd.R_drewN | apply Kd.R_drew)); exact HO177.out) hb); have n2_ := Zm (Kd.R_below (by (with_reducible repeat (first | apply Kd.R_alloc | apply Kd.R_drewN | apply Kd.R_drew)); exact HO180.out) hb); have n3_ := Zm (Kd.N_below (by (with_reducible repeat (first | apply Kd.N_alloc | apply Kd.N_drewN | apply Kd.N_drew)); exact HO189.out) hb); have n4_ := Zm (Kd.N_below (by (with_reducible repeat (first | apply Kd.N_alloc | apply Kd.N_drewN | apply Kd.N_drew)); exact HO192.out) hb); have n5_ := Zm (Kd.R_below (by (with_reducible repeat (first | apply Kd.R_alloc | apply Kd.R_drewN | apply Kd.R_drew)); exact HO195.out) hb); have n6_ := Zm (Kd.R_below (by (with_reducible repeat (first | apply Kd.R_alloc | apply Kd.R_drewN | apply Kd.R_drew)); exact HO199.out) hb); have n7_ := Zm (Kd.R_below (by (with_reducible repeat (first | apply Kd.R_alloc | apply Kd.R_drewN | apply Kd.R_drew)); exact HO202.out) hb); have n8_ := Zm (Kd.R_below (by (with_reducible repeat (first | apply Kd.R_alloc | apply Kd.R_drewN | apply Kd.R_drew)); exact HO206.out) hb); have n9_ := Zm (Kd.R_below (by (with_reducible repeat (first | apply Kd.R_alloc | apply Kd.R_drewN | apply Kd.R_drew)); exact HO209.out) hb); have n10_ := Zm (below_step (by repeat (first | (with_reducible first | exact HB.out | apply below_alloc | apply Zd | apply below_drew1) | exact HB.out)) hb); clear HO174; clear HO177; clear HO180; clear HO189; clear HO192; clear HO195; clear HO199; clear HO202; clear HO206; clear HO209; clear HB; have HO174 := n0_; have HO177 := n1_; have HO180 := n2_; have HO189 := n3_; have HO192 := n4_; have HO195 := n5_; have HO199 := n6_; have HO202 := n7_; have HO206 := n8_; have HO209 := n9_; have HB := n10_; clear n0_ n1_ n2_ n3_ n4_ n5_ n6_ n7_ n8_ n9_ n10_; (try clear hb); (try clear hb2); (try clear hk); (try clear hi)) | ((with_reducible refine gate_dst (N := 26) rfl ?_); (try (refine gate_guard (by rfl) ?_; dsimp only)); refine Kd.R_lit Kd.string _ 9 ?hg (N := 26) ?hd (xs := ([(⟨#[120]⟩ : ByteArray)] : List ByteArray)) (inner := [.string (⟨#[120]⟩ : ByteArray)]) (ok := fun _ => True) (okp := fun _ => True) ?hr ?hp (fun _ hk => hk) trivial (Below.refl _ _) (Nat.le_refl _) (by simp) ?_; (case hd => rfl); (case hg => rfl); (case hr => first | (go_simp; done) | (go_simp; rfl)); (case hp => exact (Reps.one (show Kd.M Kd.string _ _ _ (⟨#[120]⟩ : ByteArray) [.string (⟨#[120]⟩ : ByteArray)] from rfl) (Reps.none _ _))); intro v212 w50 ho51 hb hg_ hnew_; clear hg_ hnew_; (first | rw [← Ny211.out] at ho51 | (simp only [Int.reduceToNat] at ho51; rw [← Ny211.out] at ho51)); have n0_ := Zm (Kd.R_below (by (with_reducible repeat (first | apply Kd.R_alloc | apply Kd.R_drewN | apply Kd.R_drew)); exact HO174.out) hb); have n1_ := Zm (Kd.R_below (by (with_reducible repeat (first | apply Kd.R_alloc | apply Kd.R_drewN | apply Kd.R_drew)); exact HO177.out) hb); have n2_ := Zm (Kd.R_below (by (with_reducible repeat (first | apply Kd.R_alloc | apply Kd.R_drewN | apply Kd.R_drew)); exact HO180.out) hb); have n3_ := Zm (Kd.N_elder' (by (with_reducible repeat (first | apply Kd.N_alloc | apply Kd.N_drewN | apply Kd.N_drew)); exact HO189.out) (Kd.R_base ho51) hb); have n4_ := Zm (Kd.N_elder' (by (with_reducible repeat (first | apply Kd.N_alloc | apply Kd.N_drewN | apply Kd.N_drew)); exact HO192.out) (Kd.R_base ho51) hb); have n5_ := Zm (Kd.R_below (by (with_reducible repeat (first | apply Kd.R_alloc | apply Kd.R_drewN | apply Kd.R_drew)); exact HO195.out) hb); have n6_ := Zm (Kd.R_below (by (with_reducible repeat (first | apply Kd.R_alloc | apply Kd.R_drewN | apply Kd.R_drew)); exact HO199.out) hb); have n7_ := Zm (Kd.R_below (by (with_reducible repeat (first | apply Kd.R_alloc | apply Kd.R_drewN | apply Kd.R_drew)); exact HO202.out) hb); have n8_ := Zm (Kd.R_below (by (with_reducible repeat (first | apply Kd.R_alloc | apply Kd.R_drewN | apply Kd.R_drew)); exact HO206.out) hb); have n9_ := Zm (Kd.R_below (by (with_reducible repeat (first | apply Kd.R_alloc | apply Kd.R_drewN | apply Kd.R_drew)); exact HO209.out) hb); have n10_ := Zm (Kd.R_lower ho51 (below_size (by repeat (first | (with_reducible first | exact HB.out | apply below_alloc | apply Zd | apply below_drew1) | exact HB.out)))); have n11_ := Zm (below_step (by repeat (first | (with_reducible first | exact HB.out | apply below_alloc | apply Zd | apply below_drew1) | exact HB.out)) hb); clear HO174; clear HO177; clear HO180; clear HO189; clear HO192; clear HO195; clear HO199; clear HO202; clear HO206; clear HO209; clear HB; have HO174 := n0_; have HO177 := n1_; have HO180 := n2_; have HO189 := n3_; have HO192 := n4_; have HO195 := n5_; have HO199 := n6_; have HO202 := n7_; have HO206 := n8_; have HO209 := n9_; have HO213 := n10_; have HB := n11_; clear n0_ n1_ n2_ n3_ n4_ n5_ n6_ n7_ n8_ n9_ n10_ n11_; clear hb ho51) | ((with_reducible refine gate_dst (N := 27) rfl ?_); (try (refine gate_guard (by rfl) ?_; dsimp only)); refine Kd.R_lit Kd.string _ 9 ?hg (N := 27) ?hd (xs := ([(⟨#[121]⟩ : ByteArray), (⟨#[120]⟩ : ByteArray)] : List ByteArray)) (inner := [.string (⟨#[121]⟩ : ByteArray), .string (⟨#[120]⟩ : ByteArray)]) (ok := fun _ => True) (okp := fun _ => True) ?hr ?hp (fun _ hk => hk) trivial (Below.refl _ _) (Nat.le_refl _) (by simp) ?_; (case hd => rfl); (case hg => rfl); (case hr => first | (go_simp; done) | (go_simp; rfl)); (case hp => exact (Reps.one (show Kd.M Kd.string _ _ _ (⟨#[121]⟩ : ByteArray) [.string (⟨#[121]⟩ : ByteArray)] from rfl) (Reps.one (show Kd.M Kd.string _ _ _ (⟨#[120]⟩ : ByteArray) [.string (⟨#[120]⟩ : ByteArray)] from rfl) (Reps.none _ _)))); intro v215 w52 ho53 hb hg_ hnew_; clear hg_ hnew_; (first | rw [← Ny214.out] at ho53 | (simp only [Int.reduceToNat] at ho53; rw [← Ny214.out] at ho53)); have n0_ := Zm (Kd.R_below (by (with_reducible repeat (first | apply Kd.R_alloc | apply Kd.R_drewN | apply Kd.R_drew)); exact HO174.out) hb); have n1_ := Zm (Kd.R_below (by (with_reducible repeat (first | apply Kd.R_alloc | apply Kd.R_drewN | apply Kd.R_drew)); exact HO177.out) hb); have n2_ := Zm (Kd.R_below (by (with_reducible repeat (first | apply Kd.R_alloc | apply Kd.R_drewN | apply Kd.R_drew)); exact HO180.out) hb); have n3_ := Zm (Kd.N_elder' (by (with_reducible repeat (first | apply Kd.N_alloc | apply Kd.N_drewN | apply Kd.N_drew)); exact HO189.out) (Kd.R_base ho53) hb); have n4_ := Zm (Kd.N_elder' (by (with_reducible repeat (first | apply Kd.N_alloc | apply Kd.N_drewN | apply Kd.N_drew)); exact HO192.out) (Kd.R_base ho53) hb); have n5_ := Zm (Kd.R_below (by (with_reducible repeat (first | apply Kd.R_alloc | apply Kd.R_drewN | apply Kd.R_drew)); exact HO195.out) hb); have n6_ := Zm (Kd.R_below (by (with_reducible repeat (first | apply Kd.R_alloc | apply Kd.R_drewN | apply Kd.R_drew)); exact HO199.out) hb); have n7_ := Zm (Kd.R_below (by (with_reducible repeat (first | apply Kd.R_alloc | apply Kd.R_drewN | apply Kd.R_drew)); exact HO202.out) hb); have n8_ := Zm (Kd.R_below (by (with_reducible repeat (first | apply Kd.R_alloc | apply Kd.R_drewN | apply Kd.R_drew)); exact HO206.out) hb); have n9_ := Zm (Kd.R_below (by (with_reducible repeat (first | apply Kd.R_alloc | apply Kd.R_drewN | apply Kd.R_drew)); exact HO209.out) hb); have n10_ := Zm (Kd.R_elder' (by (with_reducible repeat (first | apply Kd.R_alloc | apply Kd.R_drewN | apply Kd.R_drew)); exact HO213.out) (Kd.R_base ho53) hb); have n11_ := Zm (Kd.R_lower (Kd.R_new' ho53 (Kd.R_lt (by (with_reducible repeat (first | apply Kd.R_alloc | apply Kd.R_drewN | apply Kd.R_drew)); exact HO213.out))) (below_size (by repeat (first | (with_reducible first | exact HB.out | apply below_alloc | apply Zd | apply below_drew1) | exact HB.out)))); have n12_ := Zm (below_step (by repeat (first | (with_reducible first | exact HB.out | apply below_alloc | apply Zd | apply below_drew1) | exact HB.out)) hb); clear HO174; clear HO177; clear HO180; clear HO189; clear HO192; clear HO195; clear HO199; clear HO202; clear HO206; clear HO209; clear HO213; clear HB; have HO174 := n0_; have HO177 := n1_; have HO180 := n2_; have HO189 := n3_; have HO192 := n4_; have HO195 := n5_; have HO199 := n6_; have HO202 := n7_; have HO206 := n8_; have HO209 := n9_; have HO213 := n10_; have HO216 := n11_; have HB := n12_; clear n0_ n1_ n2_ n3_ n4_ n5_ n6_ n7_ n8_ n9_ n10_ n11_ n12_; clear hb ho53; obtain ⟨Ao54, co54, eo54⟩ := Kd.R_slice HO213.out; subst eo54; obtain ⟨Ao55, co55, eo55⟩ := Kd.R_slice HO216.out; subst eo55) | (go_at_call 18; (with_reducible refine (lcs_Texts.calls k (fun k_ => some k_ = (.slice Ao54 y211.length co54 : Value).ownBlock) _ _ y211 (fun k_ => some k_ = (.slice Ao55 y214.length co55 : Value).ownBlock) _ _ y214 t217 _ ?side1 ?side2 A9.out).mono ?_); (case side1 => exact Kd.R_V (Kd.R_tight rfl (Kd.R_apart' (Kd.R_apart' (Kd.R_apart' (Kd.R_apart' (Kd.R_apart' (Kd.R_apart' (Kd.R_apart' (Kd.R_apart' (Kd.R_apart' (Kd.R_apart' (HO213.out) (Kd.R_typed HO174.out) (by decide)) (Kd.R_typed HO177.out) (by decide)) (Kd.R_typed HO180.out) (by decide)) (Kd.N_typed HO189.out) (by decide)) (Kd.N_typed HO192.out) (by decide)) (Kd.R_typed HO195.out) (by decide)) (Kd.R_typed HO199.out) (by decide)) (Kd.R_typed HO202.out) (by decide)) (Kd.R_typed HO206.out) (by decide)) (Kd.R_typed HO209.out) (by decide)))); (case side2 => exact Kd.R_V (Kd.R_tight rfl (Kd.R_apart' (Kd.R_apart' (Kd.R_apart' (Kd.R_apart' (Kd.R_apart' (Kd.R_apart' (Kd.R_apart' (Kd.R_apart' (Kd.R_apart' (Kd.R_apart' (HO216.out) (Kd.R_typed HO174.out) (by decide)) (Kd.R_typed HO177.out) (by decide)) (Kd.R_typed HO180.out) (by decide)) (Kd.N_typed HO189.out) (by decide)) (Kd.N_typed HO192.out) (by decide)) (Kd.R_typed HO195.out) (by decide)) (Kd.R_typed HO199.out) (by decide)) (Kd.R_typed HO202.out) (by decide)) (Kd.R_typed HO206.out) (by decide)) (Kd.R_typed HO209.out) (by decide)))); rintro e w56 ⟨v218, rfl, ho0, hb⟩; have n0_ := Zm (Kd.R_elder' (by (with_reducible repeat (first | apply Kd.R_alloc | apply Kd.R_drewN | apply Kd.R_drew)); exact HO174.out) (Kd.R_base ho0) hb); have n1_ := Zm (Kd.R_elder' (by (with_reducible repeat (first | apply Kd.R_alloc | apply Kd.R_drewN | apply Kd.R_drew)); exact HO177.out) (Kd.R_base ho0) hb); have n2_ := Zm (Kd.R_elder' (by (with_reducible repeat (first | apply Kd.R_alloc | apply Kd.R_drewN | apply Kd.R_drew)); exact HO180.out) (Kd.R_base ho0) hb); have n3_ := Zm (Kd.N_elder' (by (with_reducible repeat (first | apply Kd.N_alloc | apply Kd.N_drewN | apply Kd.N_drew)); exact HO189.out) (Kd.R_base ho0) hb); have n4_ := Zm (Kd.N_elder' (by (with_reducible repeat (first | apply Kd.N_alloc | apply Kd.N_drewN | apply Kd.N_drew)); exact HO192.out) (Kd.R_base ho0) hb); have n5_ := Zm (Kd.R_elder' (by (with_reducible repeat (first | apply Kd.R_alloc | apply Kd.R_drewN | apply Kd.R_drew)); exact HO195.out) (Kd.R_base ho0) hb); have n6_ := Zm (Kd.R_elder' (by (with_reducible repeat (first | apply Kd.R_alloc | apply Kd.R_drewN | apply Kd.R_drew)); exact HO199.out) (Kd.R_base ho0) hb); have n7_ := Zm (Kd.R_elder' (by (with_reducible repeat (first | apply Kd.R_alloc | apply Kd.R_drewN | apply Kd.R_drew)); exact HO202.out) (Kd.R_base ho0) hb); have n8_ := Zm (Kd.R_elder' (by (with_reducible repeat (first | apply Kd.R_alloc | apply Kd.R_drewN | apply Kd.R_drew)); exact HO206.out) (Kd.R_base ho0) hb); have n9_ := Zm (Kd.R_elder' (by (with_reducible repeat (first | apply Kd.R_alloc | apply Kd.R_drewN | apply Kd.R_drew)); exact HO209.out) (Kd.R_base ho0) hb); have n10_ := Zm (Kd.R_below (by (with_reducible repeat (first | apply Kd.R_alloc | apply Kd.R_drewN | apply Kd.R_drew)); exact HO213.out) hb); have n11_ := Zm (Kd.R_below (by (with_reducible repeat (first | apply Kd.R_alloc | apply Kd.R_drewN | apply Kd.R_drew)); exact HO216.out) hb); have n12_ := Zm (Kd.R_lower (Kd.R_new' (Kd.R_new' (Kd.R_new' (Kd.R_new' (Kd.R_new' (Kd.R_new' (Kd.R_new' (Kd.R_new' (Kd.R_mono (ok' := fun k_ => True) ho0 (fun _ hk_ => trivial)) (Kd.R_lt (by (with_reducible repeat (first | apply Kd.R_alloc | apply Kd.R_drewN | apply Kd.R_drew)); exact HO174.out))) (Kd.R_lt (by (with_reducible repeat (first | apply Kd.R_alloc | apply Kd.R_drewN | apply Kd.R_drew)); exact HO177.out))) (Kd.R_lt (by (with_reducible repeat (first | apply Kd.R_alloc | apply Kd.R_drewN | apply Kd.R_drew)); exact HO180.out))) (Kd.R_lt (by (with_reducible repeat (first | apply Kd.R_alloc | apply Kd.R_drewN | apply Kd.R_drew)); exact HO195.out))) (Kd.R_lt (by (with_reducible repeat (first | apply Kd.R_alloc | apply Kd.R_drewN | apply Kd.R_drew)); exact HO199.out))) (Kd.R_lt (by (with_reducible repeat (first | apply Kd.R_alloc | apply Kd.R_drewN | apply Kd.R_drew)); exact HO202.out))) (Kd.R_lt (by (with_reducible repeat (first | apply Kd.R_alloc | apply Kd.R_drewN | apply Kd.R_drew)); exact HO206.out))) (Kd.R_lt (by (with_reducible repeat (first | apply Kd.R_alloc | apply Kd.R_drewN | apply Kd.R_drew)); exact HO209.out))) (below_size (by repeat (first | (with_reducible first | exact HB.out | apply below_alloc | apply Zd | apply below_drew1) | exact HB.out)))); have n13_ := Zm (below_step (by repeat (first | (with_reducible first | exact HB.out | apply below_alloc | apply Zd | apply below_drew1) | exact HB.out)) hb); clear HO174; clear HO177; clear HO180; clear HO189; clear HO192; clear HO195; clear HO199; clear HO202; clear HO206; clear HO209; clear HO213; clear HO216; clear HB; have HO174 := n0_; have HO177 := n1_; have HO180 := n2_; have HO189 := n3_; have HO192 := n4_; have HO195 := n5_; have HO199 := n6_; have HO202 := n7_; have HO206 := n8_; have HO209 := n9_; have HO213 := n10_; have HO216 := n11_; have HO219 := n12_; have HB := n13_; clear n0_ n1_ n2_ n3_ n4_ n5_ n6_ n7_ n8_ n9_ n10_ n11_ n12_ n13_; (try clear hb); (try clear hb2); (try clear hk); (try clear hi); (try clear ho0)) | ((with_reducible refine gate_dst (N := 29) rfl ?_); (try (refine gate_guard (by rfl) ?_; dsimp only)); refine Kd.R_lit (Kd.int .i64) _ 3 ?hg (N := 29) ?hd (xs := ([1] : List Int)) (inner := [.int .i64 1]) (ok := fun _ => True) (okp := fun _ => True) ?hr ?hp (fun _ hk => hk) trivial (Below.refl _ _) (Nat.le_refl _) (by simp) ?_; (case hd => rfl); (case hg => rfl); (case hr => first | (go_simp; done) | (go_simp; rfl)); (case hp => exact (Reps.one (show Kd.M (Kd.int .i64) _ _ _ 1 [.int .i64 1] from rfl) (Reps.none _ _))); intro v221 w57 ho58 hb hg_ hnew_; clear hg_ hnew_; (first | rw [← Ny220.out] at ho58 | (simp only [Int.reduceToNat] at ho58; rw [← Ny220.out] at ho58)); have n0_ := Zm (Kd.R_elder' (by (with_reducible repeat (first | apply Kd.R_alloc | apply Kd.R_drewN | apply Kd.R_drew)); exact HO174.out) (Kd.R_base ho58) hb); have n1_ := Zm (Kd.R_elder' (by (with_reducible repeat (first | apply Kd.R_alloc | apply Kd.R_drewN | apply Kd.R_drew)); exact HO177.out) (Kd.R_base ho58) hb); have n2_ := Zm (Kd.R_elder' (by (with_reducible repeat (first | apply Kd.R_alloc | apply Kd.R_drewN | apply Kd.R_drew)); exact HO180.out) (Kd.R_base ho58) hb); have n3_ := Zm (Kd.N_elder' (by (with_reducible repeat (first | apply Kd.N_alloc | apply Kd.N_drewN | apply Kd.N_drew)); exact HO189.out) (Kd.R_base ho58) hb); have n4_ := Zm (Kd.N_elder' (by (with_reducible repeat (first | apply Kd.N_alloc | apply Kd.N_drewN | apply Kd.N_drew)); exact HO192.out) (Kd.R_base ho58) hb); have n5_ := Zm (Kd.R_elder' (by (with_reducible repeat (first | apply Kd.R_alloc | apply Kd.R_drewN | apply Kd.R_drew)); exact HO195.out) (Kd.R_base ho58) hb); have n6_ := Zm (Kd.R_elder' (by (with_reducible repeat (first | apply Kd.R_alloc | apply Kd.R_drewN | apply Kd.R_drew)); exact HO199.out) (Kd.R_base ho58) hb); have n7_ := Zm (Kd.R_elder' (by (with_reducible repeat (first | apply Kd.R_alloc | apply Kd.R_drewN | apply Kd.R_drew)); exact HO202.out) (Kd.R_base ho58) hb); have n8_ := Zm (Kd.R_elder' (by (with_reducible repeat (first | apply Kd.R_alloc | apply Kd.R_drewN | apply Kd.R_drew)); exact HO206.out) (Kd.R_base ho58) hb); have n9_ := Zm (Kd.R_elder' (by (with_reducible repeat (first | apply Kd.R_alloc | apply Kd.R_drewN | apply Kd.R_drew)); exact HO209.out) (Kd.R_base ho58) hb); have n10_ := Zm (Kd.R_below (by (with_reducible repeat (first | apply Kd.R_alloc | apply Kd.R_drewN | apply Kd.R_drew)); exact HO213.out) hb); have n11_ := Zm (Kd.R_below (by (with_reducible repeat (first | apply Kd.R_alloc | apply Kd.R_drewN | apply Kd.R_drew)); exact HO216.out) hb); have n12_ := Zm (Kd.R_elder' (by (with_reducible repeat (first | apply Kd.R_alloc | apply Kd.R_drewN | apply Kd.R_drew)); exact HO219.out) (Kd.R_base ho58) hb); have n13_ := Zm (Kd.R_lower (Kd.R_new' (Kd.R_new' (Kd.R_new' (Kd.R_new' (Kd.R_new' (Kd.R_new' (Kd.R_new' (Kd.R_new' (Kd.R_new' ho58 (Kd.R_lt (by (with_reducible repeat (first | apply Kd.R_alloc | apply Kd.R_drewN | apply Kd.R_drew)); exact HO174.out))) (Kd.R_lt (by (with_reducible repeat (first | apply Kd.R_alloc | apply Kd.R_drewN | apply Kd.R_drew)); exact HO177.out))) (Kd.R_lt (by (with_reducible repeat (first | apply Kd.R_alloc | apply Kd.R_drewN | apply Kd.R_drew)); exact HO180.out))) (Kd.R_lt (by (with_reducible repeat (first | apply Kd.R_alloc | apply Kd.R_drewN | apply Kd.R_drew)); exact HO195.out))) (Kd.R_lt (by (with_reducible repeat (first | apply Kd.R_alloc | apply Kd.R_drewN | apply Kd.R_drew)); exact HO199.out))) (Kd.R_lt (by (with_reducible repeat (first | apply Kd.R_alloc | apply Kd.R_drewN | apply Kd.R_drew)); exact HO202.out))) (Kd.R_lt (by (with_reducible repeat (first | apply Kd.R_alloc | apply Kd.R_drewN | apply Kd.R_drew)); exact HO206.out))) (Kd.R_lt (by (with_reducible repeat (first | apply Kd.R_alloc | apply Kd.R_drewN | apply Kd.R_drew)); exact HO209.out))) (Kd.R_lt (by (with_reducible repeat (first | apply Kd.R_alloc | apply Kd.R_drewN | apply Kd.R_drew)); exact HO219.out))) (below_size (by repeat (first | (with_reducible first | exact HB.out | apply below_alloc | apply Zd | apply below_drew1) | exact HB.out)))); have n14_ := Zm (below_step (by repeat (first | (with_reducible first | exact HB.out | apply below_alloc | apply Zd | apply below_drew1) | exact HB.out)) hb); clear HO174; clear HO177; clear HO180; clear HO189; clear HO192; clear HO195; clear HO199; clear HO202; clear HO206; clear HO209; clear HO213; clear HO216; clear HO219; clear HB; have HO174 := n0_; have HO177 := n1_; have HO180 := n2_; have HO189 := n3_; have HO192 := n4_; have HO195 := n5_; have HO199 := n6_; have HO202 := n7_; have HO206 := n8_; have HO209 := n9_; have HO213 := n10_; have HO216 := n11_; have HO219 := n12_; have HO222 := n13_; have HB := n14_; clear n0_ n1_ n2_ n3_ n4_ n5_ n6_ n7_ n8_ n9_ n10_ n11_ n12_ n13_ n14_; clear hb ho58; obtain ⟨Ao59, co59, eo59⟩ := Kd.R_slice HO219.out; subst eo59; obtain ⟨Ao60, co60, eo60⟩ := Kd.R_slice HO222.out; subst eo60) | (go_at_call 9; (with_reducible refine (r05_Same.calls k _ _ t217 _ _ y220 true _ ?side1 ?side2 ?side3 ?side4 A10.out).mono ?_); (case side1 => repeat (first | exact (Kd.R_reads' HO219.out).2.2 | (with_reducible refine Kd.C_alloc ?_ _) | (with_reducible refine Kd.C_drewN ?_ _) | (with_reducible refine Kd.C_drew ?_))); (case side2 => exact (Kd.R_reads' HO219.out).2.1); (case side3 => repeat (first | exact (Kd.R_reads' HO222.out).2.2 | (with_reducible refine Kd.C_alloc ?_ _) | (with_reducible refine Kd.C_drewN ?_ _) | (with_reducible refine Kd.C_drew ?_))); (case side4 => exact (Kd.R_reads' HO222.out).2.1); rintro e w' ⟨rfl, ⟨nd, rfl⟩⟩; obtain ⟨Ao61, co61, eo61⟩ := Kd.N_slice HO192.out; subst eo61; have p224 : 0 ≤ (1 : Int) := (by omega); have q224 : 1 < (t190.length : Int) := Zo (by first | (with_reducible assumption) | assumption); obtain ⟨ad224, A224_0, c224_0, e224, hx224_0, hl224_0, hi224_0⟩ := at_L6 (Kd.N_reads' HO192.out).2.2 1 p224 q224; cases e224; obtain ⟨ce224, hce224, hMe224, hcc224⟩ := Kd.N_get HO192.out [] 1 p224 (by first | exact q224 | exact Zo (by first | (with_reducible assumption) | assumption) | (have e_ := (Kd.N_reads' HO192.out).1; omega)); obtain ⟨ua224_0, uc224_0, rfl, ul224_0, ge224_0⟩ := Kd.FK_slice_open hMe224; have hv224_0 := hcc224 0 _ rfl; rw [Nat.add_zero, show ((Kd.slice 3 (Kd.int .i64))).sz = 1 from rfl, Nat.mul_one] at hv224_0; replace hv224_0 := Option.some.inj (hv224_0.symm.trans hx224_0); injection hv224_0 with hva_ hvn_ hvc_; rw [hva_] at ge224_0; rw [hvc_] at ul224_0; have HL224_0 := Zm (show Kd.V (Kd.int .i64) 3 _ w.heap.size _ _ (rd_L6 t190 1) from Kd.V_mk ul224_0 ge224_0); clear hva_ hvn_ hvc_ ge224_0 ul224_0; clear hcc224 hce224; (try simp only [show (1 : Int).toNat = 1 from rfl, Nat.reduceMul, Nat.reduceEqDiff, Go.Addr.add, ↓reduceIte] at hx224_0); have qi224 : (1 < t190.length) = True := eq_true (by omega); (try rw [show ((1 : Int)).toNat = 1 from rfl] at hx224_0); have HR224_0 := Zm hi224_0; have HC224_0 := Zm hl224_0; clear hi224_0 hl224_0; replace p224 := eq_true p224; replace q224 := eq_true q224) | ((with_reducible refine gate_dst (N := 41) rfl ?_); (try (refine gate_guard (by rfl) ?_; dsimp only)); refine Kd.R_lit (Kd.int .i64) _ 3 ?hg (N := 41) ?hd (xs := ([1, 2] : List Int)) (inner := [.int .i64 1, .int .i64 2]) (ok := fun _ => True) (okp := fun _ => True) ?hr ?hp (fun _ hk => hk) trivial (Below.refl _ _) (Nat.le_refl _) (by simp) ?_; (case hd => rfl); (case hg => rfl); (case hr => first | (go_simp; done) | (go_simp; rfl)); (case hp => exact (Reps.one (show Kd.M (Kd.int .i64) _ _ _ 1 [.int .i64 1] from rfl) (Reps.one (show Kd.M (Kd.int .i64) _ _ _ 2 [.int .i64 2] from rfl) (Reps.none _ _)))); intro v226 w62 ho63 hb hg_ hnew_; clear hg_ hnew_; (first | rw [← Ny225.out] at ho63 | (simp only [Int.reduceToNat] at ho63; rw [← Ny225.out] at ho63)); have n0_ := Zm (Kd.R_elder' (by (with_reducible repeat (first | apply Kd.R_alloc | apply Kd.R_drewN | apply Kd.R_drew)); exact HO174.out) (Kd.R_base ho63) hb); have n1_ := Zm (Kd.R_elder' (by (with_reducible repeat (first | apply Kd.R_alloc | apply Kd.R_drewN | apply Kd.R_drew)); exact HO177.out) (Kd.R_base ho63) hb); have n2_ := Zm (Kd.R_elder' (by (with_reducible repeat (first | apply Kd.R_alloc | apply Kd.R_drewN | apply Kd.R_drew)); exact HO180.out) (Kd.R_base ho63) hb); have n3_ := Zm (Kd.N_elder' (by (with_reducible repeat (first | apply Kd.N_alloc | apply Kd.N_drewN | apply Kd.N_drew)); exact HO189.out) (Kd.R_base ho63) hb); have n4_ := Zm (Kd.N_elder' (by (with_reducible repeat (first | apply Kd.N_alloc | apply Kd.N_drewN | apply Kd.N_drew)); exact HO192.out) (Kd.R_base ho63) hb); have n5_ := Zm (Kd.R_elder' (by (with_reducible repeat (first | apply Kd.R_alloc | apply Kd.R_drewN | apply Kd.R_drew)); exact HO195.out) (Kd.R_base ho63) hb); have n6_ := Zm (Kd.R_elder' (by (with_reducible repeat (first | apply Kd.R_alloc | apply Kd.R_drewN | apply Kd.R_drew)); exact HO199.out) (Kd.R_base ho63) hb); have n7_ := Zm (Kd.R_elder' (by (with_reducible repeat (first | apply Kd.R_alloc | apply Kd.R_drewN | apply Kd.R_drew)); exact HO202.out) (Kd.R_base ho63) hb); have n8_ := Zm (Kd.R_elder' (by (with_reducible repeat (first | apply Kd.R_alloc | apply Kd.R_drewN | apply Kd.R_drew)); exact HO206.out) (Kd.R_base ho63) hb); have n9_ := Zm (Kd.R_elder' (by (with_reducible repeat (first | apply Kd.R_alloc | apply Kd.R_drewN | apply Kd.R_drew)); exact HO209.out) (Kd.R_base ho63) hb); have n10_ := Zm (Kd.R_below (by (with_reducible repeat (first | apply Kd.R_alloc | apply Kd.R_drewN | apply Kd.R_drew)); exact HO213.out) hb); have n11_ := Zm (Kd.R_below (by (with_reducible repeat (first | apply Kd.R_alloc | apply Kd.R_drewN | apply Kd.R_drew)); exact HO216.out) hb); have n12_ := Zm (Kd.R_elder' (by (with_reducible repeat (first | apply Kd.R_alloc | apply Kd.R_drewN | apply Kd.R_drew)); exact HO219.out) (Kd.R_base ho63) hb); have n13_ := Zm (Kd.R_elder' (by (with_reducible repeat (first | apply Kd.R_alloc | apply Kd.R_drewN | apply Kd.R_drew)); exact HO222.out) (Kd.R_base ho63) hb); have n14_ := Zm (Kd.V_elder' (by (with_reducible repeat (first | apply Kd.V_alloc | apply Kd.V_drewN | apply Kd.V_drew)); exact HL224_0.out) (Kd.R_base ho63) hb); have n15_ := Zm (Kd.R_lower (Kd.R_new' (Kd.R_new' (Kd.R_new' (Kd.R_new' (Kd.R_new' (Kd.R_new' (Kd.R_new' (Kd.R_new' (Kd.R_new' (Kd.R_new' ho63 (Kd.R_lt (by (with_reducible repeat (first | apply Kd.R_alloc | apply Kd.R_drewN | apply Kd.R_drew)); exact HO174.out))) (Kd.R_lt (by (with_reducible repeat (first | apply Kd.R_alloc | apply Kd.R_drewN | apply Kd.R_drew)); exact HO177.out))) (Kd.R_lt (by (with_reducible repeat (first | apply Kd.R_alloc | apply Kd.R_drewN | apply Kd.R_drew)); exact HO180.out))) (Kd.R_lt (by (with_reducible repeat (first | apply Kd.R_alloc | apply Kd.R_drewN | apply Kd.R_drew)); exact HO195.out))) (Kd.R_lt (by (with_reducible repeat (first | apply Kd.R_alloc | apply Kd.R_drewN | apply Kd.R_drew)); exact HO199.out))) (Kd.R_lt (by (with_reducible repeat (first | apply Kd.R_alloc | apply Kd.R_drewN | apply Kd.R_drew)); exact HO202.out))) (Kd.R_lt (by (with_reducible repeat (first | apply Kd.R_alloc | apply Kd.R_drewN | apply Kd.R_drew)); exact HO206.out))) (Kd.R_lt (by (with_reducible repeat (first | apply Kd.R_alloc | apply Kd.R_drewN | apply Kd.R_drew)); exact HO209.out))) (Kd.R_lt (by (with_reducible repeat (first | apply Kd.R_alloc | apply Kd.R_drewN | apply Kd.R_drew)); exact HO219.out))) (Kd.R_lt (by (with_reducible repeat (first | apply Kd.R_alloc | apply Kd.R_drewN | apply Kd.R_drew)); exact HO222.out))) (below_size (by repeat (first | (with_reducible first | exact HB.out | apply below_alloc | apply Zd | apply below_drew1) | exact HB.out)))); have n16_ := Zm (Kd.C_below (by repeat (first | (with_reducible exact HR224_0.out) | (with_reducible refine Kd.C_alloc ?_ _) | (with_reducible refine Kd.C_drewN ?_ _) | (with_reducible refine Kd.C_drew ?_) | exact HR224_0.out)) hb); have n17_ := Zm (below_step (by repeat (first | (with_reducible first | exact HB.out | apply below_alloc | apply Zd | apply below_drew1) | exact HB.out)) hb); clear HO174; clear HO177; clear HO180; clear HO189; clear HO192; clear HO195; clear HO199; clear HO202; clear HO206; clear HO209; clear HO213; clear HO216; clear HO219; clear HO222; clear HL224_0; clear HR224_0; clear HB; have HO174 := n0_; have HO177 := n1_; have HO180 := n2_; have HO189 := n3_; have HO192 := n4_; have HO195 := n5_; have HO199 := n6_; have HO202 := n7_; have HO206 := n8_; have HO209 := n9_; have HO213 := n10_; have HO216 := n11_; have HO219 := n12_; have HO222 := n13_; have HL224_0 := n14_; have HO227 := n15_; have HR224_0 := n16_; have HB := n17_; clear n0_ n1_ n2_ n3_ n4_ n5_ n6_ n7_ n8_ n9_ n10_ n11_ n12_ n13_ n14_ n15_ n16_ n17_; clear hb ho63; obtain ⟨Ao64, co64, eo64⟩ := Kd.R_slice HO227.out; subst eo64) | (go_at_call 9; (with_reducible refine (r05_Same.calls k _ _ (rd_L6 t190 1) _ _ y225 t228 _ ?side1 ?side2 ?side3 ?side4 A14.out).mono ?_); (case side1 => repeat (first | exact (by repeat (first | (with_reducible exact HR224_0.out) | (with_reducible refine Kd.C_alloc ?_ _) | (with_reducible refine Kd.C_drewN ?_ _) | (with_reducible refine Kd.C_drew ?_) | exact HR224_0.out)) | (with_reducible refine Kd.C_alloc ?_ _) | (with_reducible refine Kd.C_drewN ?_ _) | (with_reducible refine Kd.C_drew ?_))); (case side2 => exact HC224_0.out); (case side3 => repeat (first | exact (Kd.R_reads' HO227.out).2.2 | (with_reducible refine Kd.C_alloc ?_ _) | (with_reducible refine Kd.C_drewN ?_ _) | (with_reducible refine Kd.C_drew ?_))); (case side4 => exact (Kd.R_reads' HO227.out).2.1); rintro e w' ⟨rfl, ⟨nd, rfl⟩⟩))
              go_ret
              exact ⟨by first | rfl | (simp [errW_none, errW_some] <;> rfl) | (simp [*, errW_none, errW_some] <;> rfl), by repeat (first | (with_reducible first | exact HB.out | apply below_alloc | apply Zd | apply below_drew1) | exact HB.out)⟩
            · rw [if_neg c13] at H
              exact absurd H (by simp)
          · rw [if_neg c12] at H
            exact absurd H (by simp)
        · replace c11 := Bool.eq_false_iff.mpr c11
          subst c11
          have H1 : (none) = some r := by rw [if_neg (show ¬ (false = true) by decide)] at H; exact H
          clear H
          have H := H1
          clear H1
          exact absurd H (by simp)
      · rw [if_neg c8] at H
        exact absurd H (by simp)
    · rw [if_neg c6] at H
      exact absurd H (by simp)
  · replace c4 := Bool.eq_false_iff.mpr c4
    subst c4
    have H1 : (none) = some r := by rw [if_neg (show ¬ (false = true) by decide)] at H; exact H
    clear H
    have H := H1
    clear H1
    exact absurd H (by simp)

end Go.Proofs.Ytjbgdoapbehopaa.PLcsNumbers
