/- What the functions that the law SpanBytes reaches compute, and the law (part 1). -/
import Derived.Test.YtijlnfobnlplaaaRows
import Derived.Test.YtijlnfobnlplaaaTc
import Derived.Test.YtijlnfobnlplaaaShelf
import Derived.ChangeArms
import Derived.SizedLaws
import Derived.DataElems
import Derived.WalkKit
import Derived.ProofKit
import Derived.OpenShut
import Derived.ShutString
import Derived.ChangeOld
import Derived.Below
namespace Go.Proofs.AL
open Go Go.RowKit Go.Proofs.Try
/-- Nothing is asked of the package's variables. -/
noncomputable def cx : Cx := ⟨prog, fun _ => True, fun _ _ _ h => h, by kernel_rfl⟩
@[simp] theorem cx_P : cx.P = prog := rfl
end Go.Proofs.AL
namespace Go.Proofs.AL
open Go Go.RowKit Go.Proofs.Try
set_option maxRecDepth 100000
set_option linter.unusedSimpArgs false
set_option linter.unusedVariables false
/-! ### strings.Builder -/
set_option maxHeartbeats 1000000 in
theorem bcheck_used (b : Nat) (w : World) (h0 : w.cell? ⟨b, 0, none⟩ = some (.pointer (some ⟨b, 0, none⟩))) :
    Calls prog 33 #[.pointer (some ⟨b, 0, none⟩)] w fun e w' => e = .returned (.tuple #[]) ∧ w' = w := by
  obtain ⟨j, hj⟩ : ∃ j, prog.info? 44 = some j := Option.isSome_iff_exists.1 (by kernel_rfl)
  go_enter Try.func33, Try.ntmps33
  go_wp2
  rw [Lib.run_neq_ptr_same w _ Try.underlying41 hj]
  go_wp2
  go_end0
  exact ⟨rfl, rfl⟩
set_option maxHeartbeats 1000000 in
theorem bcheck_fresh (b : Nat) (w : World) (h0 : w.cell? ⟨b, 0, none⟩ = some (.pointer none)) (hsh : w.shape? b = some (44, 2)) (hfz : w.frozen? ⟨b, 0, none⟩ = false) :
    Calls prog 33 #[.pointer (some ⟨b, 0, none⟩)] w fun e w' => e = .returned (.tuple #[]) ∧ w' = w.setCell ⟨b, 0, none⟩ (.pointer (some ⟨b, 0, none⟩)) := by
  obtain ⟨j, hj, hjs⟩ : ∃ j, prog.info? 44 = some j ∧ j.size = 2 := by
    obtain ⟨j, hj⟩ := Option.isSome_iff_exists.1 (show (prog.info? 44).isSome = true by kernel_rfl)
    have h2 : (prog.info? 44).map (·.size) = some 2 := by kernel_rfl
    rw [hj] at h2
    exact ⟨j, hj, Option.some.inj h2⟩
  go_enter Try.func33, Try.ntmps33
  go_wp2
  rw [Lib.run_to_unsafe w ⟨b, 0, none⟩ Try.underlying41 Try.underlying70 hj (by rw [hjs]; decide) hsh (Nat.zero_lt_succ 1)]
  simp only [Result.andThen]
  rw [Oper.upon_value]
  go_wp2
  rw [run_callFunc_extern Try.func40 (by kernel_rfl) (by kernel_rfl) (by kernel_rfl) (e := Extern.AbiNoEscape.same) (by kernel_rfl)]
  rw [Lib.run_noEscape]
  simp only [Result.andThen]
  rw [Oper.upon_value]
  go_wp2
  rw [Lib.run_from_unsafe w ⟨b, 0, none⟩ Try.underlying70 Try.underlying41 hj hsh (by kernel_rfl)]
  simp only [Result.andThen]
  rw [Oper.upon_value]
  go_wp2
  go_end0
  exact ⟨rfl, rfl⟩
set_option maxHeartbeats 2000000 in
theorem bstr_row (b g cap : Nat) (p : Value) (cur : Array Value) (l : List UInt8) (w : World) (hbk : w.heap[b]? = some (.cells #[p, .slice (some ⟨g, 0, none⟩) l.length cap] 44 (0, 0))) (hg : w.heap[g]? = some (.cells cur 5 (0, 0))) (hl : l ≠ []) (hn : l.length ≤ cap) (hc : cap ≤ cur.size) (hm : l.length ≤ 9223372036854775807)
    (hcell : ∀ (j : Nat) (x : UInt8), l[j]? = some x → cur[j]? = some (.int .u8 x.toNat)) :
    Calls prog 22 #[.pointer (some ⟨b, 0, none⟩)] w fun e w' => e = .returned (.string ⟨l.toArray⟩) ∧ w' = w.drew.freeze ⟨g, 0, none⟩ l.length := by
  have hl0 : l.length ≠ 0 := by simpa using hl
  have c1 : w.drew.cell? ⟨b, 1, none⟩ = some (.slice (some ⟨g, 0, none⟩) l.length cap) := by
    have : w.drew.heap[b]? = some (.cells #[p, .slice (some ⟨g, 0, none⟩) l.length cap] 44 (0, 0)) := hbk
    rw [Lib.cell_of_heap this]; rfl
  have hSD : (Builtin.unsafeSliceData_ #[42] 63 #[.slice (some ⟨g, 0, none⟩) l.length cap]).run prog w.drew = .ok (.pointer (some ⟨g, 0, none⟩)) w.drew :=
    Lib.run_unsafeSliceData_row _ _ _ _ _ _ (by omega)
  have hUS : (Builtin.unsafeString_ #[63, 3] 9 #[.pointer (some ⟨g, 0, none⟩), .int .i64 l.length]).run prog w.drew = .ok (.string ⟨l.toArray⟩) (w.drew.freeze ⟨g, 0, none⟩ l.length) := by
    refine Lib.run_unsafeString_row w.drew 63 3 9 5 Try.underlying63 (by kernel_rfl) g cur.size (by have hg' : w.drew.heap[g]? = some (.cells cur 5 (0, 0)) := hg; simp [World.shape?, hg']) l hl (by omega) (by omega) ?_
    intro j x hx
    have hg' : w.drew.heap[g]? = some (.cells cur 5 (0, 0)) := hg
    rw [Addr.add_lit, Nat.zero_add, Lib.cell_of_heap hg']
    exact hcell j x hx
  have mixed : prog.follows .mixedOrders = true := by kernel_rfl
  go_enter Try.func22, Try.ntmps22
  go_wp2
  go_region_o
  all_goals (go_wp2; go_ret; exact ⟨rfl, rfl⟩)
section
variable {g : Obs} {ob : Obs} {lv : Lvs} {nx : Nat} {lp : Lps} {N : Nat} {m : List (Nat × AV)} {k : Nat}
theorem bcheck_j {id : Nat} {u : Bool} {cs : List AV} (hob : ob[id]? = some (.tp id 44 2 u :: cs)) : JCall cx 33 [.ptr id 0] (S N m ob lv nx lp) (fun r s2 => r = .tup [] ∧ s2 = S N m (ob.set id (.tp id 44 2 true :: cs)) lv nx lp) := by
  refine ⟨⟨_, _, T.func_33, by kernel_rfl, rfl⟩, fun E G a w vs hR hl hV => ?_⟩
  obtain ⟨v, rfl⟩ : ∃ v, vs = #[v] := by
    have : vs.size = 1 := hl
    exact ⟨vs[0], by apply Array.ext <;> simp_all⟩
  have h0 := hV 0 _ v rfl rfl
  cases h0 with
  | @ptr id off b hb hk =>
    obtain ⟨o1, o2, o3⟩ := hR.ob id _ b hob hb
    obtain ⟨cur, T', q1, q2, q3⟩ := o3.cells hk
    have hpos : 0 < cur.size := by simp only [List.length_cons] at q2; omega
    obtain ⟨hv0, hv1⟩ := q3 0 _ cur[0] rfl (Array.getElem?_eq_getElem hpos)
    have hc0 : w.cell? ⟨b, 0, none⟩ = some cur[0] := by rw [cell_of_heap q1, Array.getElem?_eq_getElem hpos]
    generalize cur[0] = c at hv0 hc0
    cases hv0 with
    | tp0 hb' hk' =>
      rw [hb] at hb'; cases hb'
      obtain ⟨cur', q', e', hs'⟩ := hk'
      have e' : w.heap[b]? = some (.cells cur' 44 q') := e'
      have hs' : cur'.size = 2 := hs'
      have hT := q1.symm.trans e'
      cases hT
      refine (bcheck_fresh b w hc0 (by simp [World.shape?, q1, hs']) (by simp [World.frozen?, q1])).mono fun e w' ⟨h1, h2⟩ => ?_
      subst h1 h2
      have hst := hR.store (id := id) (b := b) (off := 0) (ys := [.tp id 44 2 true]) (us := [.pointer (some ⟨b, 0, none⟩)]) hob hb hk (by simp) (.cons (.tp1 hb ⟨_, _, q1, hs'⟩) rfl .nil)
      exact ⟨_, _, _, G, rfl, ⟨rfl, rfl⟩, hst, .tup rfl (fun i c h => by cases h)⟩
    | tp1 hb' hk' =>
      rw [hb] at hb'; cases hb'
      refine (bcheck_used b w hc0).mono fun e w' ⟨h1, h2⟩ => ?_
      subst h1 h2
      have hset : ob.set id (.tp id 44 2 true :: cs) = ob := by
        obtain ⟨hi, hx⟩ := List.getElem?_eq_some_iff.1 hob
        apply List.ext_getElem (by simp)
        intro j h1 h2
        rw [List.getElem_set]
        split
        · rename_i q; subst q; exact hx.symm
        · rfl
      refine ⟨_, _, _, G, rfl, ⟨rfl, rfl⟩, ?_, .tup rfl (fun i c h => by cases h)⟩
      rw [hset]
      exact hR
theorem strRows_length (b : ByteArray) : (strRows b).length = b.size := by simp [strRows]
theorem strRows_all (b : ByteArray) : (∀ el ∈ strRows b, el.length = 1) = True := by simp [strRows]
theorem strRows_app (a b : ByteArray) : strRows a ++ strRows b = strRows (a ++ b) := by simp [strRows]
theorem strRows_nil : strRows .empty = [] := rfl
attribute [simp] strRows_length strRows_all strRows_app
set_option maxHeartbeats 4000000 in
theorem bwrite_j {id : Nat} {u : Bool} {b : ByteArray} (s : ByteArray) (hob : ob[id]? = some [.tp id 44 2 u, .sl k (strRows b)]) (hk : k ≠ 0) (hk2 : k ≠ 2) (hkn : k < nx) (hlv : k = 1 ∨ look lv k = some (.ty 5)) (hl0 : look lv 0 = none) (hsz : b.size + s.size ≤ 140737488355328) :
    JCall cx 21 [.ptr id 0, .str s] (S N m ob lv nx lp) (fun r s2 => r = .tup [.int .i64 s.size, .nili] ∧ s2.ob = ob.set id [.tp id 44 2 true, .sl nx (strRows (b ++ s))] ∧ s2.live = look ((nx, .ty 5) :: rmv k lv) ∧ s2.next = nx + 1 ∧ s2.lp = lp) := by
  refine JCall.wpc (C := cx) T.func_21 (by kernel_rfl) rfl (by rfl) (fun hL => ?_)
  clear hL
  have hid : id < ob.length := (List.getElem?_eq_some_iff.1 hob).1
  simp [f21]
  refine jcallP_i (bcheck_j hob) ?_
  rintro _ _ ⟨rfl, rfl⟩
  have hnk : ¬ nx = k := by omega
  rcases hlv with rfl | hlv
  · simp [hid, hl0, hsz, hnk]
    rfl
  · simp [hid, hl0, hsz, hk, hk2, hlv, hnk]
    rfl
theorem live_drop (k : Nat) (lv : Lvs) : (fun t => if t = k then none else look lv t) = look (rmv k lv) := by
  funext t
  exact (look_rmv k lv t).symm
theorem bstring_j {id : Nat} {u : Bool} {b : ByteArray} (hob : ob[id]? = some [.tp id 44 2 u, .sl k (strRows b)]) (hk : k ≠ 0) (hk2 : k ≠ 2) (hlv : k = 1 ∨ look lv k = some (.ty 5)) :
    JCall cx 22 [.ptr id 0] (S N m ob lv nx lp) (fun r s2 => r = .str b ∧ s2.ob = ob ∧ s2.live = look (rmv k lv) ∧ s2.next = nx ∧ s2.lp = lp) := by
  refine ⟨⟨_, _, T.func_22, by kernel_rfl, rfl⟩, fun E G a w vs hR hl hV => ?_⟩
  obtain ⟨v, rfl⟩ : ∃ v, vs = #[v] := by
    have : vs.size = 1 := hl
    exact ⟨vs[0], by apply Array.ext <;> simp_all⟩
  have h0 := hV 0 _ v rfl rfl
  cases h0 with
  | @ptr id off bb hb hkk =>
    obtain ⟨o1, o2, o3⟩ := hR.ob id _ bb hob hb
    obtain ⟨cur, T', q1, q2, q3⟩ := o3.cells hkk
    have hpos : 2 ≤ cur.size := q2
    obtain ⟨hv0, -⟩ := q3 0 _ cur[0] rfl (Array.getElem?_eq_getElem (by omega))
    obtain ⟨hv1, -⟩ := q3 1 _ cur[1] rfl (Array.getElem?_eq_getElem (by omega))
    obtain ⟨hT, hs⟩ : T' = 44 ∧ cur.size = 2 := by
      have key : CellsOf w (bb, 44, 2) → T' = 44 ∧ cur.size = 2 := fun hk' => by
        obtain ⟨cur', q', e', hs'⟩ := hk'
        have e' : w.heap[bb]? = some (.cells cur' 44 q') := e'
        have := q1.symm.trans e'
        cases this
        exact ⟨rfl, hs'⟩
      cases u with
      | false =>
        generalize cur[0] = c at hv0
        cases hv0 with
        | tp0 hb' hk' => rw [hb] at hb'; cases hb'; exact key hk'
      | true =>
        generalize cur[0] = c at hv0
        cases hv0 with
        | tp1 hb' hk' => rw [hb] at hb'; cases hb'; exact key hk'
    subst hT
    obtain ⟨p, bv, rfl⟩ : ∃ p bv, cur = #[p, bv] := ⟨cur[0], cur[1], by
      apply Array.ext
      · simpa using hs
      · intro i h1 h2
        have : i = 0 ∨ i = 1 := by omega
        rcases this with rfl | rfl <;> rfl⟩
    have hbv : V G w (.sl k (strRows b)) bv := hv1
    clear hv0 hv1 q3
    have hstr : ∀ (l : List UInt8), l = b.data.toList → (⟨l.toArray⟩ : ByteArray) = b := fun l e => by subst e; exact ByteArray.ext (by simp)
    have hemp : b.size = 0 → (⟨#[]⟩ : ByteArray) = b := fun e => by
      refine ByteArray.ext ?_
      have : b.data.size = 0 := e
      exact (Array.eq_empty_of_size_eq_zero this).symm
    have hlive : ∀ t, (S N m ob lv nx lp).live t = look lv t := fun t => rfl
    -- nothing is frozen
    have none_ : b.size = 0 → (Calls prog 22 #[.pointer (some ⟨bb, 0, none⟩)] w fun e w' => e = .returned (.string ⟨#[]⟩) ∧ Below w.heap.size w w') → Calls prog 22 #[.pointer (some ⟨bb, 0, none⟩)] w fun e w' => ∃ (v : Value) (res : AV) (s2 : AS) (G' : Gh), e = .returned v ∧ (res = .str b ∧ s2.ob = ob ∧ s2.live = look (rmv k lv) ∧ s2.next = nx ∧ s2.lp = lp) ∧ Rel cx E G' (s2.fr (S N m ob lv nx lp).N (S N m ob lv nx lp).tm) a w' ∧ V G' w' res v := fun hz hc => by
      refine hc.mono fun e w' ⟨e1, hb1⟩ => ?_
      subst e1
      have hg := (hR.dropTok k).grow (m' := G.m) hb1 (fun _ _ => rfl) (fun j hj => hR.mz j (Nat.le_trans hb1.size hj))
      exact ⟨_, .str b, { S N m ob lv nx lp with live := fun t => if t = k then none else look lv t }, _, rfl, ⟨rfl, rfl, live_drop k lv, rfl, rfl⟩, hg, by rw [hemp hz]; exact .str b⟩
    have htk := hbv.tok_inv hk hk2
    have own : OwnT cx E G w 5 bv := by
      rcases hlv with rfl | hlv
      · rw [hR.t1] at htk
        exact .inl (Option.some.inj htk).symm
      · obtain ⟨v0, e1, e2⟩ := hR.lv k _ hlv
        rw [htk] at e1
        cases e1
        exact e2
    rcases own with rfl | ⟨g, n, c, size, cur, rfl, g2, g3, g4, g5, g6, g7, g8, g9, g10⟩
    · have hz : b.size = 0 := by
        obtain ⟨A, c, e, _, _⟩ := hbv.sl_sizes
        unfold nilSl at e
        injection e with e1 e2 e3
        rw [strRows_length] at e2
        exact e2.symm
      exact none_ hz (Any.Builder_String_nil Try.lays169 Try.Builder_Extra_169 w.heap.size bb p w q1)
    · have hn : n = b.size := by
        obtain ⟨A, c', e, _, _⟩ := hbv.sl_sizes
        injection e with e1 e2 e3
        rw [strRows_length] at e2
        exact e2
      subst hn
      have hsize : size = 1 := by
        have : (prog.info? 5).map (·.size) = some 1 := by kernel_rfl
        have g6 : (prog.info? 5).map (·.size) = some size := g6
        rw [this] at g6
        exact (Option.some.inj g6).symm
      subst hsize
      by_cases hz : b.size = 0
      · refine none_ hz ?_
        by_cases hc : c = 0
        · subst hc
          rw [hz] at q1
          exact Any.Builder_String_noroom Try.lays169 Try.Builder_Extra_169 w.heap.size bb g p cur w (Nat.le_refl _) q1 g3
        · rw [hz] at q1
          exact Any.Builder_String_room Try.lays169 Try.Builder_Extra_169 w.heap.size bb g c p w hc q1
      · have hll : b.data.toList.length = b.size := by simp
        have hlive : look lv k = some (.ty 5) := by
          rcases hlv with rfl | hlv
          · rw [hR.t1] at htk
            have := Option.some.inj htk
            unfold nilSl at this
            injection this with e1 e2 e3
            cases e1
          · exact hlv
        have hcell : ∀ (j : Nat) (x : UInt8), b.data.toList[j]? = some x → cur[j]? = some (.int .u8 x.toNat) := by
          intro j x hx
          have hj : (strRows b)[j]? = some [.int .u8 (x.toNat : Int)] := by
            unfold strRows
            rw [List.getElem?_map, hx]
            rfl
          have hone : ∀ el ∈ strRows b, el.length = 1 := by simp
          generalize strRows b = rows at hbv hj hone
          generalize hvv : Value.slice (some ⟨g, 0, none⟩) b.size c = vv at hbv
          cases hbv with
          | sl0 _ => cases hj
          | @sl _ _ b' o n' c' sz f a1 a2 a3 a4 a5 a6 a7 a8 a9 =>
            injection hvv with e1 e2 e3
            injection e1 with e1
            injection e1 with e4 e5
            subst e4 e5
            have hsz : sz = 1 := by
              have h1 := a6 _ (List.mem_of_getElem? hj)
              exact h1.symm
            subst hsz
            obtain ⟨-, c1, -⟩ := a8 j 0 _ _ hj rfl
            have c2 := a9 j 0 _ _ hj rfl
            generalize f j 0 = y at c1 c2
            cases c2
            rw [cell_of_heap g3] at c1
            simpa using c1
        refine (bstr_row bb g c p cur b.data.toList w (by rw [hll]; exact q1) g3 (fun e => hz (by rw [← hll, e]; rfl)) (by rw [hll]; exact g4) (by omega) (by rw [hll]; unfold maxLen at g5; omega) hcell).mono fun e w' ⟨e1, e2⟩ => ?_
        subst e1 e2
        have hfz : (w.drew.freeze ⟨g, 0, none⟩ b.data.toList.length).heap = w.heap.modify g fun
            | .cells c elem (lo, hi) => .cells c elem (if lo == hi then (0, 0 + b.data.toList.length) else (min lo 0, max hi (0 + b.data.toList.length)))
            | o => o := by
          unfold World.freeze
          rw [if_neg (by rw [hll]; exact hz)]
          rfl
        have hrel := hR.refroze (k := k) (w' := w.drew.freeze ⟨g, 0, none⟩ b.data.toList.length) hlive htk g3 (q' := (0, 0 + b.data.toList.length)) (by rw [hfz, Array.getElem?_modify, if_pos rfl, g3]; rfl) (fun j hj => by rw [hfz, Array.getElem?_modify, if_neg (fun e => hj e.symm)]) (by rw [hfz]; simp) (by unfold World.freeze; rw [if_neg (by rw [hll]; exact hz)]; rfl) (by unfold World.freeze; rw [if_neg (by rw [hll]; exact hz)]; rfl) (by unfold World.freeze; rw [if_neg (by rw [hll]; exact hz)]; rfl)
        exact ⟨_, .str b, { S N m ob lv nx lp with live := fun t => if t = k then none else look lv t }, _, rfl, ⟨rfl, rfl, live_drop k lv, rfl, rfl⟩, hrel, by rw [hstr _ rfl]; exact .str b⟩
end
end Go.Proofs.AL
namespace Go.Proofs.AL
open Go Go.RowKit Go.Proofs.Try
set_option maxRecDepth 100000
set_option linter.unusedSimpArgs false
set_option linter.unusedVariables false
abbrev Edt := Int × Int × ByteArray
def edtV (e : Edt) : List AV := [.int .i64 e.1, .int .i64 e.2.1, .str e.2.2]
def edts (l : List Edt) : List (List AV) := l.map edtV
@[simp] theorem edts_length (l : List Edt) : (edts l).length = l.length := by simp [edts]
@[simp] theorem edts_all (l : List Edt) : (∀ el ∈ edts l, el.length = 3) = True := by
  simp only [edts, List.mem_map, eq_iff_iff, iff_true]
  rintro _ ⟨v, _, rfl⟩
  rfl
@[simp] theorem edts_nil : edts [] = [] := rfl
@[simp] theorem edts_eq_nil (l : List Edt) : (edts l = []) = (l = []) := by simp [edts]
theorem edts_get {l : List Edt} {i : Nat} (h : i < (edts l).length) : (edts l)[i] = edtV (l[i]'(by simpa using h)) := by simp [edts]
attribute [simp] edts_get
theorem edts_snoc (l : List Edt) (q : Edt) : edts l ++ [edtV q] = edts (l ++ [q]) := by simp [edts]
theorem edts_pu : ∀ l : List Edt, puLL (edts l) = true
  | [] => rfl
  | x :: l => by
    have : edts (x :: l) = edtV x :: edts l := rfl
    rw [this]; simp [puLL, puL, pu, edtV, edts_pu l]
attribute [simp] edts_pu
@[simp] theorem edts_er (l : List Edt) : (edts l).map (List.map er1) = edts l := by simp [edts, edtV, er1]
/-- May edits be done, behind one that ends at e and begins at t? -/
def mayG (n : Int) : Int → Int → List Edt → Bool
  | _, _, [] => true
  | e, t, x :: l => decide (e ≤ x.1) && decide (t < x.1) && decide (x.1 ≤ x.2.1) && decide (x.2.1 ≤ n) && mayG n x.2.1 x.1 l
def mayB (n : Int) (l : List Edt) : Bool := mayG n 0 (-1) l
def fewB (l : List Edt) : Bool := decide (l.length ≤ 60) && l.all fun e => decide (e.2.2.size ≤ 200)
theorem drop_cons {α : Type} {l : List α} {i : Nat} (h : i < l.length) : l.drop i = l[i] :: l.drop (i + 1) := List.drop_eq_getElem_cons h
set_option maxHeartbeats 4000000 in
theorem check_ok (n : Int) (l : List Edt) (hl : l.length ≤ 1000000) : ACall cx 13 [.int .i64 n, .sl 0 (edts l)] (.int .i64 (if mayB n l = true then 0 else 20)) none := by
  refine ACall.wpc (C := cx) T.func_13 (by kernel_rfl) rfl (by rfl) ?_
  simp [f13]
  refine loopK [0, 9, 10] (fun (p : Nat × Int × Int) _ => p.1 ≤ l.length ∧ mayB n l = mayG n p.2.1 p.2.2 (l.drop p.1)) (fun p => [(11, .int .i64 (p.1 : Nat)), (5, .int .i64 p.2.1), (6, .int .i64 p.2.2)]) (fun _ => []) (fun _ => []) (fun p => l.length - p.1) (0, 0, -1) ⟨by simp, rfl⟩ (by simp) [] rfl (by simp) ?_
  rintro ⟨i, e, t⟩ nx g ⟨hi, hm⟩ - -
  dsimp only at hi hm
  simp
  by_cases h4 : i < l.length
  · have w : IntKind.i64.wrap ((i : Int) + 1) = ((i + 1 : Nat) : Int) := by rw [wrap64_in (by omega) (by omega)]; omega
    rw [drop_cons h4] at hm
    simp only [mayG] at hm
    obtain ⟨⟨x, y, tx⟩, hx⟩ : ∃ x, x = l[i] := ⟨_, rfl⟩
    rw [← hx] at hm
    dsimp only at hm
    by_cases a1 : x < e
    · have b1 : ¬ e ≤ x := by omega
      simp [h4, edtV, ← hx, a1, hm, b1]
    · by_cases a2 : x ≤ t
      · have b2 : ¬ t < x := by omega
        simp [h4, edtV, ← hx, a1, a2, hm, b2]
      · by_cases a3 : y < x
        · have b3 : ¬ x ≤ y := by omega
          simp [h4, edtV, ← hx, a1, a2, a3, hm, b3]
        · by_cases a4 : n < y
          · have b4 : ¬ y ≤ n := by omega
            simp [h4, edtV, ← hx, a1, a2, a3, a4, hm, b4]
          · have b1 : e ≤ x := by omega
            have b2 : t < x := by omega
            have b3 : x ≤ y := by omega
            have b4 : y ≤ n := by omega
            have hm' : mayB n l = mayG n y x (l.drop (i + 1)) := by simpa [b1, b2, b3, b4] using hm
            clear hm
            simp [h4, edtV, ← hx, a1, a2, a3, a4]
            refine ⟨by kernel_rfl, ?_⟩
            exact againK_i (i + 1, y, x) _ ⟨h4, hm'⟩ (by dsimp only; omega) (by simp [w]) rfl (by simp)
  · have : i = l.length := by omega
    subst this
    rw [List.drop_length] at hm
    simp [hm, mayG]
set_option maxHeartbeats 4000000 in
theorem rmay_ok (n : Int) (l : List Edt) (hl : l.length ≤ 1000000) : ACall cx 23 [.int .i64 n, .sl 0 (edts l)] (.bool (mayB n l)) none := by
  refine ACall.wpc (C := cx) T.func_23 (by kernel_rfl) rfl (by rfl) ?_
  simp [f23]
  refine loopK [0, 1] (fun (p : Nat × Int × Int) _ => p.1 ≤ l.length ∧ mayB n l = mayG n p.2.1 p.2.2 (l.drop p.1) ∧ 0 ≤ p.2.1 ∧ -1 ≤ p.2.2 ∧ (p.1 = 0 → p.2.1 = 0 ∧ p.2.2 = -1) ∧ ∀ (h : 0 < p.1) (h2 : p.1 - 1 < l.length), p.2.1 = l[p.1 - 1].2.1 ∧ p.2.2 = l[p.1 - 1].1) (fun p => [(5, .int .i64 (p.1 : Nat))]) (fun _ => []) (fun _ => []) (fun p => l.length - p.1) (0, 0, -1) ⟨by simp, rfl, by simp, by simp, fun _ => ⟨rfl, rfl⟩, fun h => by simp at h⟩ (by simp) [] rfl (by simp) ?_
  rintro ⟨i, e, t⟩ nx g ⟨hi, hm, he, ht, hz, hp⟩ - -
  dsimp only at hi hm he ht hz hp
  simp
  by_cases h4 : i < l.length
  · have w : IntKind.i64.wrap ((i : Int) + 1) = ((i + 1 : Nat) : Int) := by rw [wrap64_in (by omega) (by omega)]; omega
    rw [drop_cons h4] at hm
    simp only [mayG] at hm
    obtain ⟨⟨x, y, tx⟩, hx⟩ : ∃ x, x = l[i] := ⟨_, rfl⟩
    rw [← hx] at hm
    dsimp only at hm
    by_cases a1 : x < 0
    · have b1 : ¬ e ≤ x := by omega
      simp [h4, edtV, ← hx, a1, hm, b1]
    · by_cases a3 : y < x
      · have b3 : ¬ x ≤ y := by omega
        simp [h4, edtV, ← hx, a1, a3, hm, b3]
      · by_cases a4 : n < y
        · have b4 : ¬ y ≤ n := by omega
          simp [h4, edtV, ← hx, a1, a3, a4, hm, b4]
        · have b3 : x ≤ y := by omega
          have b4 : y ≤ n := by omega
          have fin : e ≤ x → t < x → mayB n l = mayG n y x (l.drop (i + 1)) := fun b1 b2 => by simpa [b1, b2, b3, b4] using hm
          have a1' : 0 ≤ x := by omega
          cases i with
          | zero =>
            obtain ⟨rfl, rfl⟩ := hz rfl
            have hm' := fin (by omega) (by omega)
            simp [h4, edtV, ← hx, a1, a3, a4]
            refine ⟨by kernel_rfl, ?_⟩
            exact againK_i (1, y, x) _ ⟨h4, hm', by dsimp only; omega, by dsimp only; omega, fun h => by simp at h, fun _ _ => by simp [← hx]⟩ (by dsimp only; omega) (by simp; rfl) rfl (by simp)
          | succ j =>
            obtain ⟨p1, p2⟩ := hp (by omega) (by show j + 1 - 1 < _; omega)
            have p1 : e = l[j].2.1 := p1
            have p2 : t = l[j].1 := p2
            have wj : IntKind.i64.wrap (((j + 1 : Nat) : Int) - 1) = (j : Int) := by rw [wrap64_in (by omega) (by omega)]; omega
            have hj : j < l.length := by omega
            have hpos : (0 : Int) < ((j + 1 : Nat) : Int) := by omega
            obtain ⟨⟨x0, y0, tx0⟩, hx0⟩ : ∃ x, x = l[j] := ⟨_, rfl⟩
            rw [← hx0] at p1 p2
            dsimp only at p1 p2
            subst p1 p2
            have wj2 : IntKind.i64.wrap (j : Int) = (j : Int) := by rw [wrap64_in (by omega) (by omega)]
            have hj' : (j : Int) < l.length := by omega
            have hj1 : (j : Int) + 1 < l.length := by omega
            have hj0 : (0 : Int) ≤ (j : Int) + 1 := by omega
            by_cases c1 : x < e
            · have b1 : ¬ e ≤ x := by omega
              rw [hm]
              simp [h4, edtV, ← hx, a1, a3, a4, wj, hj, ← hx0, wj2, hj', hj1, hj0, c1, b1]
              show psafeC _ _ = true
              kernel_rfl
            · by_cases c2 : x ≤ t
              · have b2 : ¬ t < x := by omega
                rw [hm]
                simp [h4, edtV, ← hx, a1, a3, a4, wj, hj, ← hx0, wj2, hj', hj1, hj0, c1, c2, b2]
                show psafeC _ _ = true
                kernel_rfl
              · have hm' := fin (by omega) (by omega)
                simp [h4, edtV, ← hx, a1, a3, a4, wj, hj, ← hx0, wj2, hj', hj1, hj0, c1, c2]
                refine ⟨by kernel_rfl, ?_⟩
                have w2 : IntKind.i64.wrap ((j : Int) + 1 + 1) = (j : Int) + 1 + 1 := by rw [wrap64_in (by omega) (by omega)]
                exact againK_i (j + 1 + 1, y, x) _ ⟨h4, hm', by dsimp only; omega, by dsimp only; omega, fun h => by simp at h, fun _ _ => by simp [← hx]⟩ (by dsimp only; omega) (by simp [w2]) rfl (by simp)
  · have : i = l.length := by omega
    subst this
    rw [List.drop_length] at hm
    simp [hm, mayG]
end Go.Proofs.AL
