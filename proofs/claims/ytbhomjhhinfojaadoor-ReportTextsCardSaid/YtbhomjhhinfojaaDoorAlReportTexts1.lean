/- What the functions that the law ReportTexts reaches compute, and the law (part 1). -/
import Derived.Test.YtbhomjhhinfojaaDoorRows
import Derived.Test.YtbhomjhhinfojaaDoorTc
import Derived.Test.YtbhomjhhinfojaaDoorShelf
import Derived.ChangeArms
import Derived.SizedLaws
import Derived.DataElems
import Derived.WalkKit
import Derived.ProofKit
import Derived.OpenShut
import Derived.ShutString
import Derived.ChangeOld
import Derived.Below
import Derived.LaidMore
import Derived.Stop.Joined
import Derived.MakeChecks
import Derived.Lib.LaidTab
import Derived.Shelf.Strings.BuilderK
import Derived.SevenTiedAt
namespace Go.Proofs.AL
open Go Go.RowKit Go.Proofs.Tryd
set_option maxRecDepth 100000
set_option linter.unusedSimpArgs false
set_option linter.unusedVariables false
def kindsL : List ByteArray := [⟨#[]⟩, ⟨#[116, 101, 120, 116]⟩, ⟨#[111, 114, 100, 101, 114]⟩, ⟨#[103, 111, 110, 101]⟩, ⟨#[114, 101, 112, 108, 97, 121]⟩, ⟨#[116, 121, 112, 101, 115]⟩]
def outsL : List ByteArray := [⟨#[]⟩, ⟨#[109, 101, 114, 103, 101, 100]⟩, ⟨#[99, 111, 110, 102, 108, 105, 99, 116, 115]⟩, ⟨#[116, 101, 120, 116, 117, 97, 108]⟩, ⟨#[116, 111, 111, 32, 108, 97, 114, 103, 101]⟩]
def wordsL : List ByteArray := [⟨#[]⟩, ⟨#[114, 101, 110, 97, 109, 101]⟩, ⟨#[109, 111, 118, 101, 45, 109, 101, 109, 98, 101, 114]⟩, ⟨#[109, 111, 118, 101, 45, 99, 108, 97, 115, 115]⟩]
def kinds1L : List ByteArray := [⟨#[116, 101, 120, 116]⟩, ⟨#[111, 114, 100, 101, 114]⟩, ⟨#[103, 111, 110, 101]⟩, ⟨#[114, 101, 112, 108, 97, 121]⟩, ⟨#[116, 121, 112, 101, 115]⟩]
def kindsC : List AV := kindsL.map .str
def outsC : List AV := outsL.map .str
def wordsC : List AV := wordsL.map .str
/-- What a package variable holds stays. -/
def GlobAt (m : Nat → Nat) (w : World) (k : Nat) (l : List ByteArray) : Prop := l.length ≤ m k ∧ k < w.heap.size ∧ ∀ (i : Nat) (x : ByteArray), l[i]? = some x → w.cell? ⟨k, i, none⟩ = some (.string x)
theorem GlobAt.st {m m' : Nat → Nat} {w w' : World} {k : Nat} {l : List ByteArray} (h : GlobAt m w k l) (hb : Below w.heap.size w w') (hm : ∀ b, b < w.heap.size → m' b = m b) : GlobAt m' w' k l := by
  obtain ⟨h1, h2, h3⟩ := h
  exact ⟨by rw [hm k h2]; exact h1, Nat.lt_of_lt_of_le h2 hb.size, fun i x hx => by rw [World.cell?_of_block (hb.block k h2)]; exact h3 i x hx⟩
theorem GlobAt.v {m : Nat → Nat} {w : World} {k : Nat} {l : List ByteArray} (h : GlobAt m w k l) : V (gh1 m) w (.cptr (l.map .str)) (.pointer (some ⟨k, 0, none⟩)) := by
  obtain ⟨h1, h2, h3⟩ := h
  refine .cptr (fun i => .string (l.getD i .empty)) (fun i x hx => ?_) (fun i x hx => ?_)
  · rw [List.getElem?_map] at hx
    obtain ⟨y, hy, rfl⟩ := Option.map_eq_some_iff.1 hx
    have hl := (List.getElem?_eq_some_iff.1 hy).1
    refine ⟨by show 0 + i < m k; omega, ?_, rfl⟩
    rw [Nat.zero_add, h3 i y hy, List.getD_eq_getElem?_getD, hy]
    rfl
  · rw [List.getElem?_map] at hx
    obtain ⟨y, hy, rfl⟩ := Option.map_eq_some_iff.1 hx
    have : l.getD i .empty = y := by rw [List.getD_eq_getElem?_getD, hy]; rfl
    rw [this]
    exact .str _
def VarsOk (m : Nat → Nat) (w : World) : Prop := GlobAt m w 0 kindsL ∧ GlobAt m w 1 outsL ∧ GlobAt m w 2 wordsL
noncomputable def cx : Cx := ⟨prog, VarsOk, fun _ _ _ _ hb hm ⟨h1, h2, h3⟩ => ⟨h1.st hb hm, h2.st hb hm, h3.st hb hm⟩, by kernel_rfl⟩
@[simp] theorem cx_P : cx.P = prog := rfl
def gls : List (Nat × List AV) := [(0, kindsC), (1, outsC), (2, wordsC)]
theorem gls_ok : GlobOk cx gls := by
  rintro m w ⟨h1, h2, h3⟩ q hq
  simp only [gls, List.mem_cons, List.not_mem_nil, or_false] at hq
  rcases hq with rfl | rfl | rfl
  · exact h1.v
  · exact h2.v
  · exact h3.v
@[simp] theorem glM_gls : glM gls = [(1099511627776, .cptr kindsC), (1099511627777, .cptr outsC), (1099511627778, .cptr wordsC)] := rfl
end Go.Proofs.AL
namespace Go.Proofs.AL
open Go Go.RowKit Go.Proofs.Tryd
set_option maxRecDepth 100000
set_option linter.unusedSimpArgs false
set_option linter.unusedVariables false
/-! ### strings.Builder -/
set_option maxHeartbeats 1000000 in
theorem bcheck_used (b : Nat) (w : World) (h0 : w.cell? ⟨b, 0, none⟩ = some (.pointer (some ⟨b, 0, none⟩))) :
    Calls prog 35 #[.pointer (some ⟨b, 0, none⟩)] w fun e w' => e = .returned (.tuple #[]) ∧ w' = w := by
  obtain ⟨j, hj⟩ : ∃ j, prog.info? 53 = some j := Option.isSome_iff_exists.1 (by kernel_rfl)
  go_enter Tryd.func35, Tryd.ntmps35
  go_wp2
  rw [Lib.run_neq_ptr_same w _ Tryd.underlying50 hj]
  go_wp2
  go_end0
  exact ⟨rfl, rfl⟩
set_option maxHeartbeats 1000000 in
theorem bcheck_fresh (b : Nat) (w : World) (h0 : w.cell? ⟨b, 0, none⟩ = some (.pointer none)) (hsh : w.shape? b = some (53, 2)) (hfz : w.frozen? ⟨b, 0, none⟩ = false) :
    Calls prog 35 #[.pointer (some ⟨b, 0, none⟩)] w fun e w' => e = .returned (.tuple #[]) ∧ w' = w.setCell ⟨b, 0, none⟩ (.pointer (some ⟨b, 0, none⟩)) := by
  obtain ⟨j, hj, hjs⟩ : ∃ j, prog.info? 53 = some j ∧ j.size = 2 := by
    obtain ⟨j, hj⟩ := Option.isSome_iff_exists.1 (show (prog.info? 53).isSome = true by kernel_rfl)
    have h2 : (prog.info? 53).map (·.size) = some 2 := by kernel_rfl
    rw [hj] at h2
    exact ⟨j, hj, Option.some.inj h2⟩
  go_enter Tryd.func35, Tryd.ntmps35
  go_wp2
  rw [Lib.run_to_unsafe w ⟨b, 0, none⟩ Tryd.underlying50 Tryd.underlying78 hj (by rw [hjs]; decide) hsh (Nat.zero_lt_succ 1)]
  simp only [Result.andThen]
  rw [Oper.upon_value]
  go_wp2
  rw [run_callFunc_extern Tryd.func41 (by kernel_rfl) (by kernel_rfl) (by kernel_rfl) (e := Extern.AbiNoEscape.same) (by kernel_rfl)]
  rw [Lib.run_noEscape]
  simp only [Result.andThen]
  rw [Oper.upon_value]
  go_wp2
  rw [Lib.run_from_unsafe w ⟨b, 0, none⟩ Tryd.underlying78 Tryd.underlying50 hj hsh (by kernel_rfl)]
  simp only [Result.andThen]
  rw [Oper.upon_value]
  go_wp2
  go_end0
  exact ⟨rfl, rfl⟩
set_option maxHeartbeats 2000000 in
theorem bstr_row (b g cap : Nat) (p : Value) (cur : Array Value) (l : List UInt8) (w : World) (hbk : w.heap[b]? = some (.cells #[p, .slice (some ⟨g, 0, none⟩) l.length cap] 53 (0, 0))) (hg : w.heap[g]? = some (.cells cur 5 (0, 0))) (hl : l ≠ []) (hn : l.length ≤ cap) (hc : cap ≤ cur.size) (hm : l.length ≤ 9223372036854775807)
    (hcell : ∀ (j : Nat) (x : UInt8), l[j]? = some x → cur[j]? = some (.int .u8 x.toNat)) :
    Calls prog 27 #[.pointer (some ⟨b, 0, none⟩)] w fun e w' => e = .returned (.string ⟨l.toArray⟩) ∧ w' = w.drew.freeze ⟨g, 0, none⟩ l.length := by
  have hl0 : l.length ≠ 0 := by simpa using hl
  have c1 : w.drew.cell? ⟨b, 1, none⟩ = some (.slice (some ⟨g, 0, none⟩) l.length cap) := by
    have : w.drew.heap[b]? = some (.cells #[p, .slice (some ⟨g, 0, none⟩) l.length cap] 53 (0, 0)) := hbk
    rw [Lib.cell_of_heap this]; rfl
  have hSD : (Builtin.unsafeSliceData_ #[51] 70 #[.slice (some ⟨g, 0, none⟩) l.length cap]).run prog w.drew = .ok (.pointer (some ⟨g, 0, none⟩)) w.drew :=
    Lib.run_unsafeSliceData_row _ _ _ _ _ _ (by omega)
  have hUS : (Builtin.unsafeString_ #[70, 3] 9 #[.pointer (some ⟨g, 0, none⟩), .int .i64 l.length]).run prog w.drew = .ok (.string ⟨l.toArray⟩) (w.drew.freeze ⟨g, 0, none⟩ l.length) := by
    refine Lib.run_unsafeString_row w.drew 70 3 9 5 Tryd.underlying70 (by kernel_rfl) g cur.size (by have hg' : w.drew.heap[g]? = some (.cells cur 5 (0, 0)) := hg; simp [World.shape?, hg']) l hl (by omega) (by omega) ?_
    intro j x hx
    have hg' : w.drew.heap[g]? = some (.cells cur 5 (0, 0)) := hg
    rw [Addr.add_lit, Nat.zero_add, Lib.cell_of_heap hg']
    exact hcell j x hx
  have mixed : prog.follows .mixedOrders = true := by kernel_rfl
  go_enter Tryd.func27, Tryd.ntmps27
  go_wp2
  go_region_o
  all_goals (go_wp2; go_ret; exact ⟨rfl, rfl⟩)
section
variable {g : Obs} {ob : Obs} {lv : Lvs} {nx : Nat} {lp : Lps} {N : Nat} {m : List (Nat × AV)} {k : Nat}
theorem bcheck_j {id : Nat} {u : Bool} {cs : List AV} (hob : ob[id]? = some (.tp id 53 2 u :: cs)) : JCall cx 35 [.ptr id 0] (S N m ob lv nx lp) (fun r s2 => r = .tup [] ∧ s2 = S N m (ob.set id (.tp id 53 2 true :: cs)) lv nx lp) := by
  refine ⟨⟨_, _, T.func_35, by kernel_rfl, rfl⟩, fun E G a w vs hR hl hV => ?_⟩
  obtain ⟨v, rfl⟩ : ∃ v, vs = #[v] := by
    have : vs.size = 1 := hl
    exact ⟨vs[0], by apply Array.ext <;> simp_all⟩
  have h0 := hV 0 _ v rfl rfl
  cases h0 with
  | @ptr id off b hb hk =>
    obtain ⟨o1, o2, o3⟩ := hR.ob id _ b hob hb
    obtain ⟨cur, T', q1, q2, q3⟩ := o3.cells hk
    have hpos : 0 < cur.size := by simp only [List.length_cons] at q2; omega
    obtain ⟨hv0, hv1⟩ := q3 0 _ cur[0] rfl (Array.getElem?_eq_getElem hpos)
    have hc0 : w.cell? ⟨b, 0, none⟩ = some cur[0] := by rw [cell_of_heap q1, Array.getElem?_eq_getElem hpos]
    generalize cur[0] = c at hv0 hc0
    cases hv0 with
    | tp0 hb' hk' =>
      rw [hb] at hb'; cases hb'
      obtain ⟨cur', q', e', hs'⟩ := hk'
      have e' : w.heap[b]? = some (.cells cur' 53 q') := e'
      have hs' : cur'.size = 2 := hs'
      have hT := q1.symm.trans e'
      cases hT
      refine (bcheck_fresh b w hc0 (by simp [World.shape?, q1, hs']) (by simp [World.frozen?, q1])).mono fun e w' ⟨h1, h2⟩ => ?_
      subst h1 h2
      have hst := hR.store (id := id) (b := b) (off := 0) (ys := [.tp id 53 2 true]) (us := [.pointer (some ⟨b, 0, none⟩)]) hob hb hk (by simp) (.cons (.tp1 hb ⟨_, _, q1, hs'⟩) rfl .nil)
      exact ⟨_, _, _, G, rfl, ⟨rfl, rfl⟩, hst, .tup rfl (fun i c h => by cases h)⟩
    | tp1 hb' hk' =>
      rw [hb] at hb'; cases hb'
      refine (bcheck_used b w hc0).mono fun e w' ⟨h1, h2⟩ => ?_
      subst h1 h2
      have hset : ob.set id (.tp id 53 2 true :: cs) = ob := by
        obtain ⟨hi, hx⟩ := List.getElem?_eq_some_iff.1 hob
        apply List.ext_getElem (by simp)
        intro j h1 h2
        rw [List.getElem_set]
        split
        · rename_i q; subst q; exact hx.symm
        · rfl
      refine ⟨_, _, _, G, rfl, ⟨rfl, rfl⟩, ?_, .tup rfl (fun i c h => by cases h)⟩
      rw [hset]
      exact hR
theorem strRows_length (b : ByteArray) : (strRows b).length = b.size := by simp [strRows]
theorem strRows_all (b : ByteArray) : (∀ el ∈ strRows b, el.length = 1) = True := by simp [strRows]
theorem strRows_app (a b : ByteArray) : strRows a ++ strRows b = strRows (a ++ b) := by simp [strRows]
theorem strRows_nil : strRows .empty = [] := rfl
attribute [simp] strRows_length strRows_all strRows_app
set_option maxHeartbeats 4000000 in
theorem bwrite_j {id : Nat} {u : Bool} {b : ByteArray} (s : ByteArray) (hob : ob[id]? = some [.tp id 53 2 u, .sl k (strRows b)]) (hk : k ≠ 0) (hk2 : k ≠ 2) (hkn : k < nx) (hlv : k = 1 ∨ look lv k = some (.ty 5)) (hl0 : look lv 0 = none) (hsz : b.size + s.size ≤ 140737488355328) :
    JCall cx 31 [.ptr id 0, .str s] (S N m ob lv nx lp) (fun r s2 => r = .tup [.int .i64 s.size, .nili] ∧ s2.ob = ob.set id [.tp id 53 2 true, .sl nx (strRows (b ++ s))] ∧ s2.live = look ((nx, .ty 5) :: rmv k lv) ∧ s2.next = nx + 1 ∧ s2.lp = lp) := by
  refine JCall.wpc (C := cx) T.func_31 (by kernel_rfl) rfl (by rfl) (fun hL => ?_)
  clear hL
  have hid : id < ob.length := (List.getElem?_eq_some_iff.1 hob).1
  simp [f31]
  refine jcallP_i (bcheck_j hob) ?_
  rintro _ _ ⟨rfl, rfl⟩
  have hnk : ¬ nx = k := by omega
  rcases hlv with rfl | hlv
  · simp [hid, hl0, hsz, hnk]
    rfl
  · simp [hid, hl0, hsz, hk, hk2, hlv, hnk]
    rfl
theorem live_drop (k : Nat) (lv : Lvs) : (fun t => if t = k then none else look lv t) = look (rmv k lv) := by
  funext t
  exact (look_rmv k lv t).symm
theorem bstring_j {id : Nat} {u : Bool} {b : ByteArray} (hob : ob[id]? = some [.tp id 53 2 u, .sl k (strRows b)]) (hk : k ≠ 0) (hk2 : k ≠ 2) (hlv : k = 1 ∨ look lv k = some (.ty 5)) :
    JCall cx 27 [.ptr id 0] (S N m ob lv nx lp) (fun r s2 => r = .str b ∧ s2.ob = ob ∧ s2.live = look (rmv k lv) ∧ s2.next = nx ∧ s2.lp = lp) := by
  refine ⟨⟨_, _, T.func_27, by kernel_rfl, rfl⟩, fun E G a w vs hR hl hV => ?_⟩
  obtain ⟨v, rfl⟩ : ∃ v, vs = #[v] := by
    have : vs.size = 1 := hl
    exact ⟨vs[0], by apply Array.ext <;> simp_all⟩
  have h0 := hV 0 _ v rfl rfl
  cases h0 with
  | @ptr id off bb hb hkk =>
    obtain ⟨o1, o2, o3⟩ := hR.ob id _ bb hob hb
    obtain ⟨cur, T', q1, q2, q3⟩ := o3.cells hkk
    have hpos : 2 ≤ cur.size := q2
    obtain ⟨hv0, -⟩ := q3 0 _ cur[0] rfl (Array.getElem?_eq_getElem (by omega))
    obtain ⟨hv1, -⟩ := q3 1 _ cur[1] rfl (Array.getElem?_eq_getElem (by omega))
    obtain ⟨hT, hs⟩ : T' = 53 ∧ cur.size = 2 := by
      have key : CellsOf w (bb, 53, 2) → T' = 53 ∧ cur.size = 2 := fun hk' => by
        obtain ⟨cur', q', e', hs'⟩ := hk'
        have e' : w.heap[bb]? = some (.cells cur' 53 q') := e'
        have := q1.symm.trans e'
        cases this
        exact ⟨rfl, hs'⟩
      cases u with
      | false =>
        generalize cur[0] = c at hv0
        cases hv0 with
        | tp0 hb' hk' => rw [hb] at hb'; cases hb'; exact key hk'
      | true =>
        generalize cur[0] = c at hv0
        cases hv0 with
        | tp1 hb' hk' => rw [hb] at hb'; cases hb'; exact key hk'
    subst hT
    obtain ⟨p, bv, rfl⟩ : ∃ p bv, cur = #[p, bv] := ⟨cur[0], cur[1], by
      apply Array.ext
      · simpa using hs
      · intro i h1 h2
        have : i = 0 ∨ i = 1 := by omega
        rcases this with rfl | rfl <;> rfl⟩
    have hbv : V G w (.sl k (strRows b)) bv := hv1
    clear hv0 hv1 q3
    have hstr : ∀ (l : List UInt8), l = b.data.toList → (⟨l.toArray⟩ : ByteArray) = b := fun l e => by subst e; exact ByteArray.ext (by simp)
    have hemp : b.size = 0 → (⟨#[]⟩ : ByteArray) = b := fun e => by
      refine ByteArray.ext ?_
      have : b.data.size = 0 := e
      exact (Array.eq_empty_of_size_eq_zero this).symm
    have hlive : ∀ t, (S N m ob lv nx lp).live t = look lv t := fun t => rfl
    -- nothing is frozen
    have none_ : b.size = 0 → (Calls prog 27 #[.pointer (some ⟨bb, 0, none⟩)] w fun e w' => e = .returned (.string ⟨#[]⟩) ∧ Below w.heap.size w w') → Calls prog 27 #[.pointer (some ⟨bb, 0, none⟩)] w fun e w' => ∃ (v : Value) (res : AV) (s2 : AS) (G' : Gh), e = .returned v ∧ (res = .str b ∧ s2.ob = ob ∧ s2.live = look (rmv k lv) ∧ s2.next = nx ∧ s2.lp = lp) ∧ Rel cx E G' (s2.fr (S N m ob lv nx lp).N (S N m ob lv nx lp).tm) a w' ∧ V G' w' res v := fun hz hc => by
      refine hc.mono fun e w' ⟨e1, hb1⟩ => ?_
      subst e1
      have hg := (hR.dropTok k).grow (m' := G.m) hb1 (fun _ _ => rfl) (fun j hj => hR.mz j (Nat.le_trans hb1.size hj))
      exact ⟨_, .str b, { S N m ob lv nx lp with live := fun t => if t = k then none else look lv t }, _, rfl, ⟨rfl, rfl, live_drop k lv, rfl, rfl⟩, hg, by rw [hemp hz]; exact .str b⟩
    have htk := hbv.tok_inv hk hk2
    have own : OwnT cx E G w 5 bv := by
      rcases hlv with rfl | hlv
      · rw [hR.t1] at htk
        exact .inl (Option.some.inj htk).symm
      · obtain ⟨v0, e1, e2⟩ := hR.lv k _ hlv
        rw [htk] at e1
        cases e1
        exact e2
    rcases own with rfl | ⟨g, n, c, size, cur, rfl, g2, g3, g4, g5, g6, g7, g8, g9, g10⟩
    · have hz : b.size = 0 := by
        obtain ⟨A, c, e, _, _⟩ := hbv.sl_sizes
        unfold nilSl at e
        injection e with e1 e2 e3
        rw [strRows_length] at e2
        exact e2.symm
      exact none_ hz (Any.Builder_String_nil Tryd.lays169 Tryd.Builder_Extra_169 w.heap.size bb p w q1)
    · have hn : n = b.size := by
        obtain ⟨A, c', e, _, _⟩ := hbv.sl_sizes
        injection e with e1 e2 e3
        rw [strRows_length] at e2
        exact e2
      subst hn
      have hsize : size = 1 := by
        have : (prog.info? 5).map (·.size) = some 1 := by kernel_rfl
        have g6 : (prog.info? 5).map (·.size) = some size := g6
        rw [this] at g6
        exact (Option.some.inj g6).symm
      subst hsize
      by_cases hz : b.size = 0
      · refine none_ hz ?_
        by_cases hc : c = 0
        · subst hc
          rw [hz] at q1
          exact Any.Builder_String_noroom Tryd.lays169 Tryd.Builder_Extra_169 w.heap.size bb g p cur w (Nat.le_refl _) q1 g3
        · rw [hz] at q1
          exact Any.Builder_String_room Tryd.lays169 Tryd.Builder_Extra_169 w.heap.size bb g c p w hc q1
      · have hll : b.data.toList.length = b.size := by simp
        have hlive : look lv k = some (.ty 5) := by
          rcases hlv with rfl | hlv
          · rw [hR.t1] at htk
            have := Option.some.inj htk
            unfold nilSl at this
            injection this with e1 e2 e3
            cases e1
          · exact hlv
        have hcell : ∀ (j : Nat) (x : UInt8), b.data.toList[j]? = some x → cur[j]? = some (.int .u8 x.toNat) := by
          intro j x hx
          have hj : (strRows b)[j]? = some [.int .u8 (x.toNat : Int)] := by
            unfold strRows
            rw [List.getElem?_map, hx]
            rfl
          have hone : ∀ el ∈ strRows b, el.length = 1 := by simp
          generalize strRows b = rows at hbv hj hone
          generalize hvv : Value.slice (some ⟨g, 0, none⟩) b.size c = vv at hbv
          cases hbv with
          | sl0 _ => cases hj
          | @sl _ _ b' o n' c' sz f a1 a2 a3 a4 a5 a6 a7 a8 a9 =>
            injection hvv with e1 e2 e3
            injection e1 with e1
            injection e1 with e4 e5
            subst e4 e5
            have hsz : sz = 1 := by
              have h1 := a6 _ (List.mem_of_getElem? hj)
              exact h1.symm
            subst hsz
            obtain ⟨-, c1, -⟩ := a8 j 0 _ _ hj rfl
            have c2 := a9 j 0 _ _ hj rfl
            generalize f j 0 = y at c1 c2
            cases c2
            rw [cell_of_heap g3] at c1
            simpa using c1
        refine (bstr_row bb g c p cur b.data.toList w (by rw [hll]; exact q1) g3 (fun e => hz (by rw [← hll, e]; rfl)) (by rw [hll]; exact g4) (by omega) (by rw [hll]; unfold maxLen at g5; omega) hcell).mono fun e w' ⟨e1, e2⟩ => ?_
        subst e1 e2
        have hfz : (w.drew.freeze ⟨g, 0, none⟩ b.data.toList.length).heap = w.heap.modify g fun
            | .cells c elem (lo, hi) => .cells c elem (if lo == hi then (0, 0 + b.data.toList.length) else (min lo 0, max hi (0 + b.data.toList.length)))
            | o => o := by
          unfold World.freeze
          rw [if_neg (by rw [hll]; exact hz)]
          rfl
        have hrel := hR.refroze (k := k) (w' := w.drew.freeze ⟨g, 0, none⟩ b.data.toList.length) hlive htk g3 (q' := (0, 0 + b.data.toList.length)) (by rw [hfz, Array.getElem?_modify, if_pos rfl, g3]; rfl) (fun j hj => by rw [hfz, Array.getElem?_modify, if_neg (fun e => hj e.symm)]) (by rw [hfz]; simp) (by unfold World.freeze; rw [if_neg (by rw [hll]; exact hz)]; rfl) (by unfold World.freeze; rw [if_neg (by rw [hll]; exact hz)]; rfl) (by unfold World.freeze; rw [if_neg (by rw [hll]; exact hz)]; rfl)
        exact ⟨_, .str b, { S N m ob lv nx lp with live := fun t => if t = k then none else look lv t }, _, rfl, ⟨rfl, rfl, live_drop k lv, rfl, rfl⟩, hrel, by rw [hstr _ rfl]; exact .str b⟩
end
end Go.Proofs.AL
namespace Go.Proofs.AL
open Go Go.RowKit Go.Proofs.Tryd
set_option maxRecDepth 100000
set_option linter.unusedSimpArgs false
def strs (l : List ByteArray) : List (List AV) := l.map fun s => [.str s]
@[simp] theorem strs_length (l : List ByteArray) : (strs l).length = l.length := by simp [strs]
@[simp] theorem strs_all (l : List ByteArray) : (∀ el ∈ strs l, el.length = 1) = True := by simp [strs]
@[simp] theorem strs_nil : strs [] = [] := rfl
@[simp] theorem strs_eq_nil (l : List ByteArray) : (strs l = []) = (l = []) := by simp [strs]
@[simp] theorem strs_snoc (l : List ByteArray) (s : ByteArray) : strs l ++ [[AV.str s]] = strs (l ++ [s]) := by simp [strs]
@[simp] theorem strs_app (a b : List ByteArray) : strs a ++ strs b = strs (a ++ b) := by simp [strs]
theorem strs_pu : ∀ l : List ByteArray, puLL (strs l) = true
  | [] => rfl
  | x :: l => by
    have : strs (x :: l) = [.str x] :: strs l := rfl
    rw [this]; simp [puLL, puL, pu, strs_pu l]
attribute [simp] strs_pu
@[simp] theorem strs_er (l : List ByteArray) : (strs l).map (List.map er1) = strs l := by simp [strs, er1]
theorem strs_getD {l : List ByteArray} {i : Nat} (h : i < l.length) : (strs l).getD i [] = [.str l[i]] := by simp [strs, h]
@[simp high] theorem strs_idx {tk : Nat} {l : List ByteArray} {k : IntKind} {n : Int} : idxAddr prog 40 (.sl tk (strs l)) (.int k n) = if 0 ≤ n ∧ n < l.length then some (.cptr [.str (l.getD n.toNat .empty)]) else none := by
  rw [idxAddr_low]
  simp only [T.elT_40, T.szOf_9, Option.bind_some, strs_length, strs_all, if_true]
  by_cases h : 0 ≤ n ∧ n < l.length
  · rw [if_pos h, if_pos h, strs_getD (by omega)]
    have : n.toNat < l.length := by omega
    simp [this]
  · rw [if_neg h, if_neg h]
theorem b16 {n : Nat} (h : n ≤ 1000000) : n * 16 ≤ 140737488355328 := by omega
end Go.Proofs.AL
namespace Go.Proofs.AL
open Go Go.RowKit Go.Proofs.Tryd
set_option maxRecDepth 100000
set_option linter.unusedSimpArgs false
set_option linter.unusedVariables false
theorem split2_i' {b : Bool} {x y : Ph → Prop} (h1 : b = true → x .on) (h2 : b = false → y .on) : split2 b x y := by cases b with | true => exact split2_i (fun _ => h1 rfl) (fun h => by cases h) | false => exact split2_i (fun h => by cases h) (fun _ => h2 rfl)
theorem strs_getI {l : List ByteArray} {i : Nat} (h : i < (strs l).length) : (strs l)[i] = [.str (l[i]'(by simpa using h))] := by simp [strs]
/-- The word of a number. -/
def wordS (l : List ByteArray) (n : Int) : ByteArray := if n < 1 ∨ l.length ≤ n then .empty else l.getD n.toNat .empty
set_option maxHeartbeats 1000000 in
theorem word_ok (l : List ByteArray) (n : Int) : ACall cx 24 [.sl 0 (strs l), .int .i64 n] (.str (wordS l n)) none := by
  refine ACall.wpc (C := cx) T.func_24 (by kernel_rfl) rfl (by rfl) ?_
  simp [f24]
  by_cases h1 : n < 1
  · simp [h1, wordS]
    rfl
  · by_cases h2 : (l.length : Int) ≤ n
    · simp [h1, h2, wordS]
      rfl
    · obtain ⟨k, rfl⟩ := Int.eq_ofNat_of_zero_le (show 0 ≤ n by omega)
      have h3 : k < l.length := by omega
      simp [h1, h2, wordS, h3]
@[simp high] theorem cut_kinds : cutA prog 45 (.cptr kindsC) none none = some (.sl 0 (strs kindsL)) := by kernel_rfl
@[simp high] theorem cut_kinds1 : cutA prog 45 (.cptr kindsC) (some (some (.int .i64 1))) none = some (.sl 0 (strs kinds1L)) := by kernel_rfl
@[simp high] theorem cut_outs : cutA prog 49 (.cptr outsC) none none = some (.sl 0 (strs outsL)) := by kernel_rfl
/-- A conflict's line. -/
def confS (k : Int) (key : ByteArray) : ByteArray := if wordS kindsL k = .empty ∨ key = .empty then wordS kindsL k else wordS kindsL k ++ ⟨#[32]⟩ ++ key
theorem wordS_size (l : List ByteArray) (n : Int) (c : Nat) (h : ∀ x ∈ l, x.size ≤ c) : (wordS l n).size ≤ c := by
  unfold wordS
  split
  · simp
  · rename_i hn
    simp only [not_or, Int.not_lt, Int.not_le] at hn
    have hl : n.toNat < l.length := by omega
    rw [List.getD_eq_getElem?_getD, List.getElem?_eq_getElem hl]
    exact h _ (List.getElem_mem hl)
theorem wkinds_size (n : Int) : (wordS kindsL n).size ≤ 20 := wordS_size _ _ _ (by decide)
theorem wouts_size (n : Int) : (wordS outsL n).size ≤ 20 := wordS_size _ _ _ (by decide)
set_option maxHeartbeats 1000000 in
theorem conflict_ok (k : Int) (key : ByteArray) (hk : key.size ≤ 2000000) : ACall cx 10 [.agg [.int .i64 k, .str key]] (.str (confS k key)) none := by
  refine ACall.wpg (C := cx) gls gls_ok T.func_10 (by kernel_rfl) rfl (by rfl) (fun _ => ?_)
  simp [f10]
  refine callP_i (word_ok kindsL k) ?_
  simp
  refine ⟨by kernel_rfl, ?_⟩
  have e : (⟨#[]⟩ : ByteArray) = .empty := rfl
  rw [e]
  by_cases h1 : wordS kindsL k = .empty
  · simp [h1, confS]
  · by_cases h2 : key = .empty
    · simp [h1, h2, confS]
    · simp [h1, h2, confS]
      have := wkinds_size k
      have h32 : (ByteArray.mk #[32]).size = 1 := rfl
      omega
set_option maxHeartbeats 1000000 in
theorem outcome_ok (k : Int) : ACall cx 12 [.int .i64 k] (.str (wordS outsL k)) none := by
  refine ACall.wpg (C := cx) gls gls_ok T.func_12 (by kernel_rfl) rfl (by rfl) (fun _ => ?_)
  simp [f12]
  refine callP_i (word_ok outsL k) ?_
  simp
/-! ### requests -/
def ofV (k : Int) (a b : ByteArray) : AV := if k = 1 then .ifc 72 (.agg [.int .i64 k, .str a, .str b]) else if k = 2 then .ifc 73 (.agg [.int .i64 k, .str a, .str b]) else if k = 3 then .ifc 74 (.agg [.int .i64 k, .str a, .str b]) else .nili
set_option maxHeartbeats 1000000 in
theorem of_ok (k : Int) (a b : ByteArray) : ACall cx 33 [.agg [.int .i64 k, .str a, .str b]] (.tup [ofV k a b, .bool (decide (k = 1 ∨ k = 2 ∨ k = 3))]) none := by
  refine ACall.wpc (C := cx) T.func_33 (by kernel_rfl) rfl (by rfl) ?_
  simp [f33]
  by_cases h1 : k = 1
  · subst h1; simp [ofV]
  · by_cases h2 : k = 2
    · subst h2; simp [ofV]
    · by_cases h3 : k = 3
      · subst h3; simp [ofV]
      · have b1 : (k == 1) = false := by simp [h1]
        have b2 : (k == 2) = false := by simp [h2]
        have b3 : (k == 3) = false := by simp [h3]
        simp [h1, h2, h3, b1, b2, b3, ofV]
def showS (k : Int) (a b : ByteArray) : ByteArray := if k = 1 ∨ k = 2 ∨ k = 3 then wordsL.getD k.toNat .empty ++ ⟨#[32]⟩ ++ a ++ ⟨#[32, 116, 111, 32]⟩ ++ b else .empty
@[simp high] theorem idx_words1 : idxAddr prog 69 (.cptr wordsC) (.int .i64 1) = some (.cptr ((wordsL.drop 1).map .str)) := by kernel_rfl
@[simp high] theorem idx_words2 : idxAddr prog 69 (.cptr wordsC) (.int .i64 2) = some (.cptr ((wordsL.drop 2).map .str)) := by kernel_rfl
@[simp high] theorem idx_words3 : idxAddr prog 69 (.cptr wordsC) (.int .i64 3) = some (.cptr ((wordsL.drop 3).map .str)) := by kernel_rfl
set_option maxHeartbeats 1000000 in
theorem show_ok (k : Int) (a b : ByteArray) (ha : a.size ≤ 2000000) (hb : b.size ≤ 2000000) : ACall cx 26 [.agg [.int .i64 k, .str a, .str b]] (.str (showS k a b)) none := by
  refine ACall.wpg (C := cx) gls gls_ok T.func_26 (by kernel_rfl) rfl (by rfl) (fun _ => ?_)
  simp [f26]
  refine callP_i (of_ok k a b) ?_
  have z1 : (ByteArray.mk #[114, 101, 110, 97, 109, 101]).size = 6 := rfl
  have z2 : (ByteArray.mk #[32]).size = 1 := rfl
  have z3 : (ByteArray.mk #[32, 116, 111, 32]).size = 4 := rfl
  have z4 : (ByteArray.mk #[109, 111, 118, 101, 45, 109, 101, 109, 98, 101, 114]).size = 11 := rfl
  have z5 : (ByteArray.mk #[109, 111, 118, 101, 45, 99, 108, 97, 115, 115]).size = 10 := rfl
  by_cases h1 : k = 1
  · subst h1
    simp [ofV, wordsL]
    simp only [z1, z2, z3, z4, z5]
    refine ⟨by omega, by omega, by omega, by omega, by kernel_rfl, ?_⟩
    simp [showS, wordsL]
  · by_cases h2 : k = 2
    · subst h2
      simp [ofV, wordsL]
      simp only [z1, z2, z3, z4, z5]
      refine ⟨by omega, by omega, by omega, by omega, by kernel_rfl, ?_⟩
      simp [showS, wordsL]
    · by_cases h3 : k = 3
      · subst h3
        simp [ofV, wordsL]
        simp only [z1, z2, z3, z4, z5]
        refine ⟨by omega, by omega, by omega, by omega, by kernel_rfl, ?_⟩
        simp [showS, wordsL]
      · simp [h1, h2, h3, ofV]
        simp [showS, h1, h2, h3]
        rfl
end Go.Proofs.AL
