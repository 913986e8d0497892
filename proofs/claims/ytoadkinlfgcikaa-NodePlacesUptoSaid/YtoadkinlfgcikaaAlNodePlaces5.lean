/- What the functions that the law NodePlaces reaches compute, and the law (part 5). -/
import Derived.Test.YtoadkinlfgcikaaAlNodePlaces4
namespace Go.Proofs.AL
open Go Go.RowKit Go.Proofs.Try
set_option maxRecDepth 100000
set_option linter.unusedSimpArgs false
set_option maxHeartbeats 4000000 in
theorem names_ok (hw : Awake) (x : Nd) (k : Int) (l : List ByteArray) (hx : x.count ≤ 10000000) : ACall cx 7 [.agg x.cells, .int .i64 k, .sl 0 (strs l)] (.bool true) none := by
  refine ACall.wpc (C := cx) T.func_7 (by kernel_rfl) rfl (by rfl) ?_
  simp [f7]
  refine callP_i hw ?_
  simp
  refine callP_i (few_ok x hx) ?_
  simp
  by_cases h1 : x.few = true <;> simp [h1]
  repeat' ((with_reducible refine split2_i (fun h => ?_) (fun h => ?_)) <;> simp [h])
  refine callP_i (all_ok x 0 hx) ?_
  simp
  rename_i h2 h3
  have hl2 : 2 ≤ l.length := by simp at h2; omega
  have hk : 0 ≤ k ∧ k ≤ 24 := by simp at h3 h; omega
  have b0 : 0 < l.length := by omega
  have b1 : 1 < l.length := by omega
  have b1' : (1 : Int) < l.length := by omega
  have hlen : (x.all 0).length = x.count := Nd.all0 x
  refine loopK [1, 2, 3, 9] (fun i _ => i ≤ (x.all 0).length ∧ ∀ z ∈ (x.all 0).take i, z.text ≠ l[1] ∧ z.type ≠ l[1]) (fun i => [(10, .int .i64 (i : Nat))]) (fun _ => [x.cells]) (fun _ => []) (fun i => (x.all 0).length - i) 0 ⟨by simp, by simp⟩ (by simp) [] rfl (by simp) ?_
  rintro i nx g ⟨hi, hd⟩ - -
  simp
  by_cases h4 : i < (x.all 0).length
  · simp [h4, b1, b1']
    have w : IntKind.i64.wrap ((i : Int) + 1) = ((i + 1 : Nat) : Int) := by rw [wrap64_in (by omega) (by omega)]; omega
    by_cases e1 : ((x.all 0)[i]).text = l[1]
    · simp [e1]
      show psafeC _ _ = true
      kernel_rfl
    · by_cases e2 : ((x.all 0)[i]).type = l[1]
      · simp [e1, e2, h4, b1, b1']
        show psafeC _ _ = true
        kernel_rfl
      · simp [e1, e2, h4, b1, b1']
        refine ⟨by kernel_rfl, ?_⟩
        refine againK_i (i + 1) g ⟨h4, ?_⟩ (by omega) (by simp [w]) rfl (by simp)
        rw [List.take_succ_eq_append_getElem h4]
        intro z hz
        rcases List.mem_append.1 hz with hz | hz
        · exact hd z hz
        · rw [List.mem_singleton] at hz; subst hz; exact ⟨e1, e2⟩
  · have : i = (x.all 0).length := by omega
    subst this
    rw [List.take_length] at hd
    have hback := rename_back k l[0] l[1] x hd
    have hc := Nd.each_count (keeps_rename k l[0] l[1]) x
    have hdp := Nd.each_depth (keeps_rename k l[0] l[1]) x
    simp [b0, b1, b1']
    refine callP_i (rename_ok k l[0] l[1] x hx) ?_
    simp
    refine ⟨?_, ?_⟩
    · generalize List.length g = n
      revert n
      refine psafe_all 1 ?_ ?_
      · intro n; simp [Cls.sh, Nat.add_comm, Nat.add_left_comm]
      · kernel_rfl
    simp [b0, b1, b1']
    refine callP_i (rename_ok k l[1] l[0] _ (by rw [hc]; exact hx)) ?_
    rw [hback]
    simp
    refine ⟨?_, ?_⟩
    · generalize List.length g = n
      revert n
      refine psafe_all 1 ?_ ?_
      · intro n; simp [Cls.sh, Nat.add_comm, Nat.add_left_comm]
      · kernel_rfl
    refine callP_i (exact_ok _ _) ?_
    simp
    refine callP_i (ncount_ok _ (by rw [hc]; exact hx)) ?_
    simp [hc]
    refine callP_i (ncount_ok _ hx) ?_
    simp
    refine callP_i (depth_ok _ (by rw [hc]; exact hx)) ?_
    simp [hdp]
    refine callP_i (depth_ok _ hx) ?_
    simp
    by_cases e1 : l[0] = l[1]
    · simp [e1, b0, b1, b1']
      generalize List.length g = n
      revert n
      refine psafe_all 1 ?_ ?_
      · intro n; simp [Cls.sh, Nat.add_comm, Nat.add_left_comm]
      · kernel_rfl
    · by_cases e2 : k = 0
      · subst e2
        simp [e1, b0, b1, b1']
        refine callP_i (all_ok _ 0 (by rw [hc]; exact hx)) ?_
        simp [hlen, Nd.all0, hc]
        generalize List.length g = n
        revert n
        refine psafe_all 1 ?_ ?_
        · intro n; simp [Cls.sh, Nat.add_comm, Nat.add_left_comm]
        · kernel_rfl
      · have hk1 : (k != 0) = true := by simp [e2]
        simp [e1, hk1, b0, b1, b1']
        generalize List.length g = n
        revert n
        refine psafe_all 1 ?_ ?_
        · intro n; simp [Cls.sh, Nat.add_comm, Nat.add_left_comm]
        · kernel_rfl
set_option maxHeartbeats 4000000 in
theorem places_ok (hw : Awake) (x : Nd) (n b : Int) (hx : x.count ≤ 10000000) : ACall cx 8 [.agg x.cells, .int .i64 n, .int .i64 b] (.bool true) none := by
  refine ACall.wpc (C := cx) T.func_8 (by kernel_rfl) rfl (by rfl) ?_
  simp [f8]
  refine callP_i hw ?_
  simp
  refine callP_i (few_ok x hx) ?_
  simp
  by_cases h1 : x.few = true <;> simp [h1]
  repeat' ((with_reducible refine split2_i (fun h => ?_) (fun h => ?_)) <;> simp [h])
  rename_i h2 h3 h4
  have hn : 0 ≤ n ∧ n ≤ 1000000 := by simp at h2 h3; omega
  have hb : 0 ≤ b ∧ b ≤ 1000000 := by simp at h4 h; omega
  have hlen : (x.all 0).length = x.count := Nd.all0 x
  refine loopK [1, 2, 3] (fun i _ => i ≤ (x.all 0).length ∧ ∀ z ∈ (x.all 0).take i, 0 ≤ z.from_ ∧ z.from_ ≤ 1000000 ∧ 0 ≤ z.to ∧ z.to ≤ 1000000) (fun i => [(9, .int .i64 (i : Nat))]) (fun _ => [x.cells]) (fun _ => []) (fun i => (x.all 0).length - i) 0 ⟨by simp, by simp⟩ (by simp) [] rfl (by simp) ?_
  rintro i nx g ⟨hi, hd⟩ - -
  simp
  refine callP_i (all_ok x 0 hx) ?_
  simp
  by_cases h5 : i < (x.all 0).length
  · simp [h5]
    refine callP_i (all_ok x 0 hx) ?_
    simp [h5]
    have w : IntKind.i64.wrap ((i : Int) + 1) = ((i + 1 : Nat) : Int) := by rw [wrap64_in (by omega) (by omega)]; omega
    repeat' ((with_reducible refine split2_i (fun h => ?_) (fun h => ?_)) <;> simp [h])
    rename_i h6 h7 h8
    refine againK_i (i + 1) _ ⟨h5, ?_⟩ (by omega) (by simp [w]) rfl (by simp)
    rw [List.take_succ_eq_append_getElem h5]
    intro z hz
    rcases List.mem_append.1 hz with hz | hz
    · exact hd z hz
    · rw [List.mem_singleton] at hz; subst hz
      simp at h6 h7 h8 h
      omega
  · have : i = (x.all 0).length := by omega
    subst this
    rw [List.take_length] at hd
    have hsw := shift_way b n hb x hd
    obtain ⟨y, hy1, hy2, hy3⟩ := path_get n x
    have hw1 : IntKind.i64.wrap (n + b) = n + b := wrap64_in (by omega) (by omega)
    have hxl : (x.kids.length : Int) ≤ 10000000 := by have := Nd.len_count x.kids; have := Nd.count_eq x; omega
    simp
    refine callP_i (at_ok x n hx) ?_
    simp
    refine callP_i (shift_ok b x hx) ?_
    simp
    refine callP_i (at_ok _ _ (by rw [Nd.each_count (keeps_shift b)]; exact hx)) ?_
    rw [hw1, hsw]
    simp
    refine callP_i (sameI_go _ _) ?_
    simp
    refine callP_i (nget_ok x _) ?_
    by_cases hh : x.has n = true
    · have e1 : x.way n = x.path n := by simp [Nd.way, hh]
      rw [e1, hy1]
      have hh' := hh
      simp [Nd.has] at hh'
      have hyh := hy2 hh
      simp [Nd.has] at hyh
      simp [getAV, show ¬ n < x.from_ by omega, show ¬ x.to ≤ n by omega, show ¬ n < y.from_ by omega, show ¬ y.to ≤ n by omega]
      refine loopC_lens (fun hL => ?_)
      have hyl := Nd.lens (x := y) (t := 85) hL (by simp)
      clear hL
      refine loopK [1, 12] (fun i _ => i ≤ y.kids.length) (fun i => [(14, .int .i64 (i : Nat))]) (fun _ => x.cells :: (g ++ [y.cells])) (fun _ => []) (fun i => y.kids.length - i) 0 (by simp) (by simp) [] (by simp) (by simp) ?_
      rintro i nx g' hi - -
      simp [get_app_len]
      by_cases h6 : i < y.kids.length
      · have hno := hy3 _ (List.getElem_mem h6)
        simp [h6]
        by_cases e3 : (y.kids[i]).from_ ≤ n
        · by_cases e4 : n < (y.kids[i]).to
          · simp [Nd.has, e3, e4] at hno
          · simp [h6, e3, e4, get_app_len]
            exact againK_i (i + 1) g' h6 (by omega) (by simp [wrap64_i h6 hyl]) (by simp) (by simp)
        · simp [h6, e3, get_app_len]
          exact againK_i (i + 1) g' h6 (by omega) (by simp [wrap64_i h6 hyl]) (by simp) (by simp)
      · simp [h6]
    · have e1 : x.way n = [] := by simp [Nd.way, hh]
      rw [e1]
      simp [getAV, Nd.get]
      simp [Nd.has] at hh
      by_cases e2 : n < x.from_
      · simp [e2]
      · have e3 : x.to ≤ n := hh (by omega)
        simp [e2, e3]
end Go.Proofs.AL
namespace Go.Proofs.AL
open Go Go.RowKit Go.Proofs.Ytoadkinlfgcikaa
set_option linter.unusedVariables false
set_option linter.unusedSimpArgs false
/-! ## What a law's argument reads as -/
/-- All cells of a block. -/
def mAll (w : World) : Nat → Nat := fun b => match w.heap[b]? with
  | some (.cells c _ _) => c.size
  | _ => 0
theorem mAll_end (w : World) (b : Nat) (h : w.heap.size ≤ b) : mAll w b = 0 := by
  unfold mAll
  rw [Array.getElem?_eq_none h]
theorem mAll_cell {w : World} {b o : Nat} {v : Value} (h : w.cell? ⟨b, o, none⟩ = some v) : o < mAll w b := by
  unfold World.cell? at h
  unfold mAll
  cases hb : w.heap[b]? with
  | none => rw [hb] at h; cases h
  | some ob =>
    rw [hb] at h
    cases ob with
    | cells c T q => exact (Array.getElem?_eq_some_iff.1 h).1
    | _ => cases h
theorem spot_none {w : World} {a : Addr} {v : Value} (h : w.cell? a = some v) : a.spot = none := by
  unfold World.cell? at h
  split at h
  · split at h
    · cases h
    · rename_i hs
      cases hsp : a.spot with
      | none => rfl
      | some _ => rw [hsp] at hs; exact absurd rfl hs
  · cases h
/-- Whatever reads as data of type t is a value with these cells, of a size that the datum tells, and as the reach allows. -/
def ToldAt {α : Type} (P : Program) (t : TypeId) (cells : α → List AV) (sz : α → Nat) (ok : α → Prop) (fuel : Nat) : Prop :=
  ∀ {H : Type} {enc : TypeId × Value → H} {w : World} {held : Bool} {cs : List Value} {z : DataW H × List MemPlace},
    DataW.trod enc P w 0 (fun _ => true) held fuel t cs = some z → (∀ q ∈ DataW.weights P t z.1, q ≤ 140737488351232) → ∃ x, VL (gh1 (mAll w)) w (cells x) cs ∧ ok x ∧ sz x ≤ Rows.uptoBulk z.1
def Told {α : Type} (P : Program) (t : TypeId) (cells : α → List AV) (sz : α → Nat) (ok : α → Prop) : Prop := ∀ fuel, ToldAt P t cells sz ok fuel
theorem mapM_get {α β : Type} {f : α → Option β} : ∀ {l : List α} {xs : List β}, l.mapM f = some xs → xs.length = l.length ∧ ∀ (i : Nat) (a : α), l[i]? = some a → f a = xs[i]? := by
  intro l
  induction l with
  | nil => intro xs h; rw [List.mapM_nil] at h; cases h; exact ⟨rfl, fun i a hi => by simp at hi⟩
  | cons b l ih =>
    intro xs h
    rw [List.mapM_cons] at h
    cases hy : f b with
    | none => rw [hy] at h; cases h
    | some y =>
      rw [hy] at h
      cases hys : l.mapM f with
      | none => rw [hys] at h; cases h
      | some ys =>
        rw [hys] at h
        cases h
        obtain ⟨hl, hg⟩ := ih hys
        refine ⟨by rw [List.length_cons, List.length_cons, hl], fun i a hi => ?_⟩
        cases i with
        | zero => rw [List.getElem?_cons_zero] at hi ⊢; injection hi with hi; subst hi; exact hy
        | succ i => rw [List.getElem?_cons_succ] at hi ⊢; exact hg i a hi
theorem cells_at {w : World} {base : Nat} {a : Addr} {n : Nat} {cs : List Value} (h : w.cells? base a n = some cs) : cs.length = n ∧ ∀ i u, cs[i]? = some u → w.cell? (a.add i) = some u := by
  unfold World.cells? at h
  split at h
  · obtain ⟨hl, hg⟩ := mapM_get h
    rw [List.length_range] at hl
    refine ⟨hl, fun i u hi => ?_⟩
    have hlt : i < n := by
      rcases Nat.lt_or_ge i n with h1 | h1
      · exact h1
      · rw [List.getElem?_eq_none (by omega)] at hi; cases hi
    rw [hg i i (by rw [List.getElem?_range hlt])]; exact hi
  · cases h
theorem bulk_one {H : Type} (d : DataW H) : 1 ≤ Rows.uptoBulk d := by
  cases d with
  | lit l => cases l <;> simp [Rows.uptoBulk]
  | nil => simp [Rows.uptoBulk]
  | ptr d => simp [Rows.uptoBulk]
  | slice elems spare => simp [Rows.uptoBulk]
  | agg parts => simp [Rows.uptoBulk]
  | iface u d => simp [Rows.uptoBulk]
  | map entries => simp [Rows.uptoBulk]
  | held t => simp [Rows.uptoBulk]
theorem told_int {P : Program} {t : TypeId} {k : IntKind} (hu : P.underlying t = some (.int k)) : Told P t (fun x : Int => [.int k x]) (fun _ => 1) (fun x => (Lit.int k x).wf = true) := by
  intro fuel H enc w held cs z h _
  obtain ⟨n, rfl, rfl, hw⟩ := DataW.trod_int hu h
  exact ⟨n, .cons (.int k n) rfl .nil, hw, bulk_one _⟩
theorem told_bool {P : Program} {t : TypeId} (hu : P.underlying t = some .bool) : Told P t (fun x : Bool => [.bool x]) (fun _ => 1) (fun _ => True) := by
  intro fuel H enc w held cs z h _
  obtain ⟨n, rfl, rfl⟩ := DataW.trod_bool hu h
  exact ⟨n, .cons (.bool n) rfl .nil, trivial, bulk_one _⟩
theorem told_string {P : Program} {t : TypeId} (hu : P.underlying t = some .string) : Told P t (fun s : ByteArray => [.str s]) (fun s => s.size + 1) (fun s => s.size ≤ 140737488351232) := by
  intro fuel H enc w held cs z h hq
  obtain ⟨s, rfl, rfl, hs⟩ := DataW.trod_string hu h
  refine ⟨s, .cons (.str s) rfl .nil, ?_, ?_⟩
  · have := hq s.data.toList.length (by simp [DataW.weights])
    simpa using this
  · simp [Rows.uptoBulk]
def sumOf {α : Type} (sz : α → Nat) : List α → Nat
  | [] => 0
  | x :: l => sz x + sumOf sz l
theorem sumOf_le {α : Type} (sz : α → Nat) {l : List α} {x : α} (h : x ∈ l) : sz x ≤ sumOf sz l := by
  induction l with
  | nil => cases h
  | cons y l ih =>
    rw [sumOf]
    cases h with
    | head => exact Nat.le_add_right _ _
    | tail _ h => exact Nat.le_trans (ih h) (Nat.le_add_left _ _)
theorem rows_told {α : Type} {P : Program} {e : TypeId} {cells : α → List AV} {sz : α → Nat} {ok : α → Prop} {n : Nat} (ht : ToldAt P e cells sz ok n) {H : Type} {enc : TypeId × Value → H} {w : World} {held : Bool} (get : Nat → Option (List Value)) :
    ∀ (elems : List (DataW H × List MemPlace)) (k : Nat), (∀ i, i < elems.length → (get (k + i)).bind (DataW.trod enc P w 0 (fun _ => true) held n e) = elems[i]?) → (∀ q ∈ DataW.weightsAll P e (elems.map (·.1)), q ≤ 140737488351232) →
    ∃ l : List α, l.length = elems.length ∧ (∀ i x, l[i]? = some x → ∃ cs, get (k + i) = some cs ∧ VL (gh1 (mAll w)) w (cells x) cs) ∧ (∀ x ∈ l, ok x) ∧ sumOf sz l ≤ Rows.uptoBulkAll (elems.map (·.1)) := by
  intro elems
  induction elems with
  | nil => intro k _ _; exact ⟨[], rfl, (fun i x hi => (by simp at hi)), (fun x hx => (by cases hx)), Nat.zero_le _⟩
  | cons y elems ih =>
    intro k h hq
    rw [List.map_cons, DataW.weightsAll] at hq
    have h0 := h 0 (by simp)
    rw [List.getElem?_cons_zero, Nat.add_zero] at h0
    cases hc : get k with
    | none => rw [hc] at h0; cases h0
    | some cs =>
      rw [hc] at h0
      obtain ⟨x, hx, hox, hsx⟩ := ht h0 (fun q hm => hq q (List.mem_append_left _ hm))
      obtain ⟨l, hl, hg, ho, hs⟩ := ih (k + 1) (fun i hi => by
        have := h (i + 1) (by rw [List.length_cons]; omega)
        rw [List.getElem?_cons_succ] at this
        rw [← this, show k + 1 + i = k + (i + 1) by omega]) (fun q hm => hq q (List.mem_append_right _ hm))
      refine ⟨x :: l, by rw [List.length_cons, List.length_cons, hl], fun i u hi => ?_, fun u hu => ?_, ?_⟩
      · cases i with
        | zero => rw [List.getElem?_cons_zero] at hi; injection hi with hi; subst hi; exact ⟨cs, hc, hx⟩
        | succ i => rw [List.getElem?_cons_succ] at hi; obtain ⟨c, h1, h2⟩ := hg i u hi; exact ⟨c, by rw [show k + (i + 1) = k + 1 + i by omega]; exact h1, h2⟩
      · cases hu with
        | head => exact hox
        | tail _ hu => exact ho u hu
      · rw [sumOf, List.map_cons, Rows.uptoBulkAll]; omega
/-- A slice: c: how many cells an element has; B: how many bytes. -/
theorem told_slice_at {α : Type} {P : Program} {t e : TypeId} {cells : α → List AV} {sz : α → Nat} {ok : α → Prop} (c B : Nat) (hc0 : 0 < c) (hu : P.underlying t = some (.slice e)) (hc : P.cellsOf e = c) (hb : P.bytesOf e = B) (hcl : ∀ x, (cells x).length = c) (fuel : Nat) (he : ∀ n, n < fuel → ToldAt P e cells sz ok n) :
    ToldAt P t (fun l : List α => [.sl 0 (l.map cells)]) (fun l => sumOf sz l + 1) (fun l => l.length * B ≤ 140737488351232 ∧ ∀ x ∈ l, ok x) fuel := by
  intro H enc w held cs z h hq
  rcases DataW.trod_slice hu h with ⟨rfl, rfl⟩ | ⟨a, len, cap, elems, rest, n, rfl, rfl, rfl, _, hlc, hcm, hlen, hel, _, _⟩
  · exact ⟨[], .cons (.sl0 (.inl rfl)) rfl .nil, ⟨by simp, (fun x hx => (by cases hx))⟩, bulk_one _⟩
  · simp only [DataW.weights, hu] at hq
    obtain ⟨l, hl, hg, ho, hs⟩ := rows_told (he n (Nat.lt_succ_self n)) (H := H) (enc := enc) (w := w) (held := held) (fun i => w.cells? 0 (a.add (i * P.cellsOf e)) (P.cellsOf e)) elems 0
      (fun i hi => by rw [Nat.zero_add]; exact hel i (by omega)) (fun q hm => hq q (List.mem_cons_of_mem _ (List.mem_append_left _ hm)))
    have hll : l.length = len := by omega
    refine ⟨l, .cons ?_ rfl .nil, ⟨?_, ho⟩, ?_⟩
    · rcases Nat.eq_zero_or_pos l.length with h0 | h0
      · have hnil : l = [] := List.eq_nil_of_length_eq_zero h0
        subst hnil
        have : len = 0 := by omega
        subst this
        exact .sl0 (.inl rfl)
      · have key : ∀ (j i : Nat) (el : List AV) (x : AV), (l.map cells)[j]? = some el → el[i]? = some x → ∃ u, w.cell? ⟨a.block, a.off + (j * c + i), none⟩ = some u ∧ u.oneCell' = true ∧ V (gh1 (mAll w)) w x u ∧ a.spot = none := by
          intro j i el x hj hi
          rw [List.getElem?_map] at hj
          obtain ⟨p, hp, rfl⟩ := Option.map_eq_some_iff.1 hj
          obtain ⟨cs, h1, h2⟩ := hg j p hp
          rw [Nat.zero_add] at h1
          obtain ⟨g1, g2⟩ := cells_at h1
          have hil : i < cs.length := by have := (List.getElem?_eq_some_iff.1 hi).1; rw [h2.1] at this; exact this
          obtain ⟨v1, v2⟩ := h2.2 i x cs[i] hi (List.getElem?_eq_getElem hil)
          have hcell := g2 i cs[i] (List.getElem?_eq_getElem hil)
          rw [hc, Addr.add_add] at hcell
          have hsp := spot_none hcell
          by_cases h00 : j * c + i = 0
          · have e0 : a.add (j * c + i) = a := by unfold Addr.add; rw [if_pos h00]
            rw [e0] at hcell hsp
            have ea : (⟨a.block, a.off + (j * c + i), none⟩ : Addr) = a := by rw [h00, Nat.add_zero, ← hsp]
            exact ⟨_, by rw [ea]; exact hcell, v2, v1, hsp⟩
          · have e0 : a.add (j * c + i) = ⟨a.block, a.off + (j * c + i), none⟩ := by unfold Addr.add; rw [if_neg h00]
            rw [e0] at hcell
            have h0' : 0 < l.length := h0
            -- the row's own place: of its first cell
            have hp0 : l[0]? = some l[0] := List.getElem?_eq_getElem h0'
            obtain ⟨cs0, k1, k2⟩ := hg 0 _ hp0
            obtain ⟨q1, q2⟩ := cells_at k1
            have hl0 : 0 < cs0.length := by rw [q1, hc]; exact hc0
            have hz := q2 0 _ (List.getElem?_eq_getElem hl0)
            have ez : (a.add ((0 + 0) * P.cellsOf e)).add 0 = a := by unfold Addr.add; simp
            rw [ez] at hz
            exact ⟨_, hcell, v2, v1, spot_none hz⟩
        have hsp : a.spot = none := by
          have hel0 : (l.map cells)[0]? = some (cells l[0]) := by rw [List.getElem?_map, List.getElem?_eq_getElem h0]; rfl
          have hc1 : 0 < (cells l[0]).length := by rw [hcl]; exact hc0
          obtain ⟨_, _, _, _, h4⟩ := key 0 0 _ _ hel0 (List.getElem?_eq_getElem hc1)
          exact h4
        have ea : a = ⟨a.block, a.off, none⟩ := by cases a; simp at hsp; subst hsp; rfl
        rw [ea]
        refine .sl (sz := c) (fun j i => (w.cell? ⟨a.block, a.off + (j * c + i), none⟩).getD undef) (by omega) (by simp; omega) hlc hcm hc0 (fun el hel => ?_) (.inl rfl) (fun j i el x hj hi => ?_) (fun j i el x hj hi => ?_)
        · obtain ⟨p, _, rfl⟩ := List.mem_map.1 hel
          exact hcl p
        · obtain ⟨u, h1, h2, h3, _⟩ := key j i el x hj hi
          exact ⟨mAll_cell h1, by rw [h1]; rfl, by rw [h1]; exact h2⟩
        · obtain ⟨u, h1, h2, h3, _⟩ := key j i el x hj hi
          rw [h1]; exact h3
    · have := hq ((elems.length + rest.length) * P.bytesOf e) (by simp)
      rw [hb] at this
      rw [hl]
      exact Nat.le_trans (Nat.mul_le_mul_right _ (Nat.le_add_right _ _)) this
    · simp only [Rows.uptoBulk]; omega
theorem told_slice {α : Type} {P : Program} {t e : TypeId} {cells : α → List AV} {sz : α → Nat} {ok : α → Prop} (c B : Nat) (hc0 : 0 < c) (hu : P.underlying t = some (.slice e)) (hc : P.cellsOf e = c) (hb : P.bytesOf e = B) (hcl : ∀ x, (cells x).length = c) (he : Told P e cells sz ok) :
    Told P t (fun l : List α => [.sl 0 (l.map cells)]) (fun l => sumOf sz l + 1) (fun l => l.length * B ≤ 140737488351232 ∧ ∀ x ∈ l, ok x) := fun fuel => told_slice_at c B hc0 hu hc hb hcl fuel (fun n _ => he n)
theorem ToldAt.map {α β : Type} {P : Program} {t : TypeId} {cells : α → List AV} {sz : α → Nat} {ok : α → Prop} {fuel : Nat} (h : ToldAt P t cells sz ok fuel) {cells' : β → List AV} {sz' : β → Nat} {ok' : β → Prop} (f : α → β) (h1 : ∀ x, cells' (f x) = cells x) (h2 : ∀ x, sz' (f x) ≤ sz x) (h3 : ∀ x, ok x → ok' (f x)) : ToldAt P t cells' sz' ok' fuel := by
  intro H enc w held cs z h' hq
  obtain ⟨x, a, b, c⟩ := h h' hq
  exact ⟨f x, by rw [h1]; exact a, h3 x b, Nat.le_trans (h2 x) c⟩
/-- A field's part of a struct's cells. -/
theorem told_field {α : Type} {P : Program} {t : TypeId} {cells : α → List AV} {sz : α → Nat} {ok : α → Prop} {n : Nat} (ht : ToldAt P t cells sz ok n) {H : Type} {enc : TypeId × Value → H} {w : World} {held : Bool} {cs : List Value} {off k : Nat} {y : DataW H × List MemPlace} (hk : P.cellsOf t = k)
    (h : DataW.trod enc P w 0 (fun _ => true) held n t ((cs.drop off).take (P.cellsOf t)) = some y) (hq : ∀ q ∈ DataW.weights P t y.1, q ≤ 140737488351232) : ∃ x, VL (gh1 (mAll w)) w (cells x) ((cs.drop off).take k) ∧ ok x ∧ sz x ≤ Rows.uptoBulk y.1 := by
  rw [hk] at h
  exact ht h hq
/-- An argument, by its reading and its weights. -/
theorem told_arg {α : Type} {P : Program} {t : TypeId} {cells : α → List AV} {sz : α → Nat} {ok : α → Prop} (ht : Told P t cells sz ok) {H : Type} {enc : TypeId × Value → H} {w : World} {held : Bool} {ts : List TypeId} {ds : List (DataW H)} {j : Nat} {v : Value} {z : DataW H} {ps : List MemPlace}
    (h : DataW.Trod enc P w 0 (fun _ => true) held t v z ps) (hsz : (DataW.weightsEach P ts ds).all (· ≤ reachBytes) = true) (hj : ts[j]? = some t) (hd : ds[j]? = some z) : ∃ x, VL (gh1 (mAll w)) w (cells x) v.cells.toList ∧ ok x ∧ sz x ≤ Rows.uptoBulk z := by
  obtain ⟨fuel, hf⟩ := h
  obtain ⟨x, h1, h2, h3⟩ := ht fuel hf (fun q hq => by
    have := List.all_eq_true.1 hsz q (DataW.weights_mem_each hj hd q hq)
    exact of_decide_eq_true this)
  exact ⟨x, h1, h2, h3⟩
theorem vl_one {G : Gh} {w : World} {x : AV} {v : Value} (h : VL G w [x] v.cells.toList) (hn : ∀ cs, v ≠ .agg cs) : V G w x v := by
  cases v with
  | agg cs => exact absurd rfl (hn cs)
  | _ => exact (h.2 0 _ _ rfl rfl).1
theorem vl_struct {G : Gh} {w : World} {xs : List AV} {v : Value} (h : VL G w xs v.cells.toList) (hn : xs.length ≠ 1) : V G w (.agg xs) v := by
  cases v with
  | agg cs => exact VL.agg h
  | _ => exact absurd h.1 hn
theorem vl_agg {G : Gh} {w : World} {xs : List AV} {cs : Array Value} (h : VL G w xs (Value.agg cs).cells.toList) : V G w (.agg xs) (.agg cs) := VL.agg h
/-- The law's call: true, and what there was is as it was. -/
theorem law_calls {C : Cx} {f : FuncId} {args : List AV} (h : ACall C f args (.bool true) none) {W : World} {vs : Array Value} (hgi : C.GI W) (hl : vs.size = args.length) (hV : ∀ (i : Nat) (x : AV) (v : Value), args[i]? = some x → vs[i]? = some v → V (gh1 (mAll W)) W x v) :
    Calls C.P f vs W fun e w' => e = .returned (.bool true) ∧ Below W.heap.size W w' :=
  (h.2 (mAll W) W vs hgi (fun b hb => mAll_end W b hb) hl hV).mono (fun e w' ⟨v, m', he, hb, _, _, hv, _⟩ => ⟨by rw [he]; cases hv; rfl, hb⟩)
end Go.Proofs.AL
namespace Go.Proofs.AL
open Go Go.RowKit Go.Proofs.Try Go.Proofs.Ytoadkinlfgcikaa
set_option maxRecDepth 100000
set_option linter.unusedVariables false
def iok (n : Int) : Prop := (Lit.int .i64 n).wf = true
mutual
def Nd.wf : Nd → Prop
  | .mk k t y n f o a ta l => iok k ∧ iok n ∧ iok f ∧ iok o ∧ iok a ∧ iok ta ∧ Nd.wfL l
def Nd.wfL : List Nd → Prop
  | [] => True
  | x :: l => x.wf ∧ Nd.wfL l
end
mutual
def Nd.sz : Nd → Nat
  | .mk k t y n f o a ta l => t.size + y.size + Nd.szL l + 10
def Nd.szL : List Nd → Nat
  | [] => 0
  | x :: l => x.sz + Nd.szL l
end
theorem Nd.szL_sum (l : List Nd) : Nd.szL l = sumOf Nd.sz l := by induction l with | nil => rfl | cons x l ih => rw [Nd.szL, sumOf, ih]
theorem Nd.wfL_all {l : List Nd} (h : ∀ x ∈ l, x.wf) : Nd.wfL l := by
  induction l with
  | nil => trivial
  | cons x l ih => exact ⟨h x (List.mem_cons_self), ih (fun y hy => h y (List.mem_cons_of_mem _ hy))⟩
theorem take_drop_one {α : Type} {cs : List α} {i : Nat} {v : α} (h : cs[i]? = some v) : (cs.drop i).take 1 = [v] := by
  have hl := (List.getElem?_eq_some_iff.1 h).1
  rw [List.drop_eq_getElem_cons hl]
  have := (List.getElem?_eq_some_iff.1 h).2
  simp [this]
theorem told_nd : Told prog 24 Nd.cells Nd.sz Nd.wf := by
  intro fuel
  induction fuel using Nat.strongRecOn with | _ fuel ih
  intro H enc w held cs z h hq
  obtain ⟨xs, n, rfl, rfl, hl, hlen, hf⟩ := DataW.trod_struct Try.underlying24 h
  have et : prog.cellsOf 24 = 9 := by kernel_rfl
  rw [et] at hl
  simp only [DataW.weights, Try.underlying24] at hq
  match cs, hl with
  | [v0, v1, v2, v3, v4, v5, v6, v7, v8], _ =>
    match xs, hlen with
    | [y0, y1, y2, y3, y4, y5, y6, y7, y8], _ =>
      simp only [List.map_cons, List.map_nil, DataW.weightsEach, List.append_nil] at hq
      have int : ∀ (t : TypeId) (hu : prog.underlying t = some (.int .i64)) (n : Nat), ToldAt prog t (fun x : Int => [.int .i64 x]) (fun _ => 1) (fun x => (Lit.int .i64 x).wf = true) n := fun t hu n => @told_int prog t .i64 hu n
      have str : ∀ (t : TypeId) (hu : prog.underlying t = some .string) (n : Nat), ToldAt prog t (fun s : ByteArray => [.str s]) (fun s => s.size + 1) (fun s => s.size ≤ 140737488351232) n := fun t hu n => @told_string prog t hu n
      have kids : ToldAt prog 22 (fun l : List Nd => [.sl 0 (l.map Nd.cells)]) (fun l => sumOf Nd.sz l + 1) (fun l => l.length * 104 ≤ 140737488351232 ∧ ∀ x ∈ l, x.wf) n :=
        @told_slice_at Nd prog 22 24 Nd.cells Nd.sz Nd.wf 9 104 (by decide) Try.underlying22 et (by kernel_rfl) Nd.cells_length n (fun m hm => ih m (by omega))
      obtain ⟨x0, g0, o0, s0⟩ := told_field (int 3 Try.underlying3 n) (k := 1) (off := 0) (by kernel_rfl) (hf 0 _ rfl) (fun q hm => hq q (by simp [hm]))
      obtain ⟨x1, g1, o1, s1⟩ := told_field (str 9 Try.underlying9 n) (k := 1) (off := 1) (by kernel_rfl) (hf 1 _ rfl) (fun q hm => hq q (by simp [hm]))
      obtain ⟨x2, g2, o2, s2⟩ := told_field (str 9 Try.underlying9 n) (k := 1) (off := 2) (by kernel_rfl) (hf 2 _ rfl) (fun q hm => hq q (by simp [hm]))
      obtain ⟨x3, g3, o3, s3⟩ := told_field (int 2 Try.underlying2 n) (k := 1) (off := 3) (by kernel_rfl) (hf 3 _ rfl) (fun q hm => hq q (by simp [hm]))
      obtain ⟨x4, g4, o4, s4⟩ := told_field (int 3 Try.underlying3 n) (k := 1) (off := 4) (by kernel_rfl) (hf 4 _ rfl) (fun q hm => hq q (by simp [hm]))
      obtain ⟨x5, g5, o5, s5⟩ := told_field (int 3 Try.underlying3 n) (k := 1) (off := 5) (by kernel_rfl) (hf 5 _ rfl) (fun q hm => hq q (by simp [hm]))
      obtain ⟨x6, g6, o6, s6⟩ := told_field (int 3 Try.underlying3 n) (k := 1) (off := 6) (by kernel_rfl) (hf 6 _ rfl) (fun q hm => hq q (by simp [hm]))
      obtain ⟨x7, g7, o7, s7⟩ := told_field (int 3 Try.underlying3 n) (k := 1) (off := 7) (by kernel_rfl) (hf 7 _ rfl) (fun q hm => hq q (by simp [hm]))
      obtain ⟨x8, g8, o8, s8⟩ := told_field kids (k := 1) (off := 8) (by kernel_rfl) (hf 8 _ rfl) (fun q hm => hq q (by simp [hm]))
      refine ⟨.mk x0 x1 x2 x3 x4 x5 x6 x7 x8, ?_, ⟨o0, o3, o4, o5, o6, o7, Nd.wfL_all o8.2⟩, ?_⟩
      · have := (((((((g0.append g1).append g2).append g3).append g4).append g5).append g6).append g7).append g8
        simpa [Nd.cells, Nd.rows_map] using this
      · simp only [Nd.sz, Rows.uptoBulk, List.map_cons, List.map_nil, Rows.uptoBulkAll, Nd.szL_sum]
        omega
mutual
theorem Nd.count_le_sz : ∀ x : Nd, x.count ≤ x.sz
  | .mk k t y n f o a ta l => by
    have := Nd.countL_le_szL l
    rw [Nd.count, Nd.sz]; omega
theorem Nd.countL_le_szL : ∀ l : List Nd, Nd.countL l ≤ Nd.szL l
  | [] => by simp [Nd.countL]
  | x :: l => by
    have h1 := Nd.count_le_sz x
    have h2 := Nd.countL_le_szL l
    rw [Nd.countL, Nd.szL]; omega
end
end Go.Proofs.AL
