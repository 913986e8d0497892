/- What the functions that the law FlowBlocks reaches compute, and the law. -/
import Derived.Test.YtknabihpplaheaaRows
import Derived.Test.YtknabihpplaheaaTc
import Derived.ChangeArms
import Derived.SizedLaws
import Derived.DataElems
import Derived.WalkKit
import Derived.ProofKit
import Derived.OpenShut
import Derived.ShutString
import Derived.ChangeOld
import Derived.Below
namespace Go.Proofs.AL
open Go Go.RowKit Go.Proofs.Try
set_option maxRecDepth 100000
/-- A node, as the program has it. -/
inductive Nd where
  | mk (kind : Int) (text type : ByteArray) (n from_ to at_ typeAt : Int) (kids : List Nd)
def Nd.kind : Nd → Int | .mk k .. => k
def Nd.text : Nd → ByteArray | .mk _ t .. => t
def Nd.type : Nd → ByteArray | .mk _ _ t .. => t
def Nd.n : Nd → Int | .mk _ _ _ n .. => n
def Nd.from_ : Nd → Int | .mk _ _ _ _ f .. => f
def Nd.to : Nd → Int | .mk _ _ _ _ _ t .. => t
def Nd.at_ : Nd → Int | .mk _ _ _ _ _ _ a .. => a
def Nd.typeAt : Nd → Int | .mk _ _ _ _ _ _ _ a _ => a
def Nd.kids : Nd → List Nd | .mk _ _ _ _ _ _ _ _ l => l
mutual
def Nd.cells : Nd → List AV
  | .mk k t y n f o a ta l => [.int .i64 k, .str t, .str y, .int .i64 n, .int .i64 f, .int .i64 o, .int .i64 a, .int .i64 ta, .sl 0 (Nd.rows l)]
def Nd.rows : List Nd → List (List AV)
  | [] => []
  | x :: l => x.cells :: Nd.rows l
end
theorem Nd.cells_eq (x : Nd) : x.cells = [.int .i64 x.kind, .str x.text, .str x.type, .int .i64 x.n, .int .i64 x.from_, .int .i64 x.to, .int .i64 x.at_, .int .i64 x.typeAt, .sl 0 (Nd.rows x.kids)] := by cases x; rfl
theorem Nd.rows_map (l : List Nd) : Nd.rows l = l.map Nd.cells := by induction l with | nil => rfl | cons x l ih => rw [Nd.rows, ih]; rfl
@[simp] theorem Nd.rows_length (l : List Nd) : (Nd.rows l).length = l.length := by rw [Nd.rows_map]; simp
@[simp] theorem Nd.rows_eq_nil (l : List Nd) : (Nd.rows l = []) = (l = []) := by cases l <;> simp [Nd.rows]
@[simp] theorem Nd.rows_nil : Nd.rows [] = [] := rfl
instance : Inhabited Nd := ⟨.mk 0 .empty .empty 0 0 0 0 0 []⟩
theorem Nd.rows_getD {l : List Nd} {i : Nat} (h : i < l.length) : (Nd.rows l).getD i [] = (l.getD i default).cells := by
  rw [Nd.rows_map]; simp [h]
@[simp] theorem Nd.cells_length (x : Nd) : x.cells.length = 9 := by simp [Nd.cells_eq]
@[simp] theorem Nd.rows_all (l : List Nd) : (∀ el ∈ Nd.rows l, el.length = 9) = True := by
  rw [Nd.rows_map]; simp
theorem Nd.rows_append (a b : List Nd) : Nd.rows (a ++ b) = Nd.rows a ++ Nd.rows b := by simp [Nd.rows_map]
@[simp] theorem Nd.append_rows (a b : List Nd) : Nd.rows a ++ Nd.rows b = Nd.rows (a ++ b) := (Nd.rows_append a b).symm
@[simp] theorem Nd.append_cells (a : List Nd) (x : Nd) : Nd.rows a ++ [x.cells] = Nd.rows (a ++ [x]) := by rw [Nd.rows_append]; rfl
theorem Nd.rows_one (x : Nd) : Nd.rows [x] = [x.cells] := rfl
@[simp] theorem Nd.mk_eta (x : Nd) : Nd.mk x.kind x.text x.type x.n x.from_ x.to x.at_ x.typeAt x.kids = x := by cases x; rfl
@[simp] theorem kind_mk (k t y n f o a ta l) : (Nd.mk k t y n f o a ta l).kind = k := rfl
@[simp] theorem text_mk (k t y n f o a ta l) : (Nd.mk k t y n f o a ta l).text = t := rfl
@[simp] theorem type_mk (k t y n f o a ta l) : (Nd.mk k t y n f o a ta l).type = y := rfl
@[simp] theorem n_mk (k t y n f o a ta l) : (Nd.mk k t y n f o a ta l).n = n := rfl
@[simp] theorem from__mk (k t y n f o a ta l) : (Nd.mk k t y n f o a ta l).from_ = f := rfl
@[simp] theorem to_mk (k t y n f o a ta l) : (Nd.mk k t y n f o a ta l).to = o := rfl
@[simp] theorem at__mk (k t y n f o a ta l) : (Nd.mk k t y n f o a ta l).at_ = a := rfl
@[simp] theorem typeAt_mk (k t y n f o a ta l) : (Nd.mk k t y n f o a ta l).typeAt = ta := rfl
@[simp] theorem kids_mk (k t y n f o a ta l) : (Nd.mk k t y n f o a ta l).kids = l := rfl
@[simp] theorem Nd.c0 (x : Nd) : x.cells[0]? = some (.int .i64 x.kind) := by simp [Nd.cells_eq]
@[simp] theorem Nd.c1 (x : Nd) : x.cells[1]? = some (.str x.text) := by simp [Nd.cells_eq]
@[simp] theorem Nd.c2 (x : Nd) : x.cells[2]? = some (.str x.type) := by simp [Nd.cells_eq]
@[simp] theorem Nd.c3 (x : Nd) : x.cells[3]? = some (.int .i64 x.n) := by simp [Nd.cells_eq]
@[simp] theorem Nd.c4 (x : Nd) : x.cells[4]? = some (.int .i64 x.from_) := by simp [Nd.cells_eq]
@[simp] theorem Nd.c5 (x : Nd) : x.cells[5]? = some (.int .i64 x.to) := by simp [Nd.cells_eq]
@[simp] theorem Nd.c6 (x : Nd) : x.cells[6]? = some (.int .i64 x.at_) := by simp [Nd.cells_eq]
@[simp] theorem Nd.c7 (x : Nd) : x.cells[7]? = some (.int .i64 x.typeAt) := by simp [Nd.cells_eq]
@[simp] theorem Nd.c8 (x : Nd) : x.cells[8]? = some (.sl 0 (Nd.rows x.kids)) := by simp [Nd.cells_eq]
@[simp] theorem Nd.g0 (x : Nd) (h : 0 < x.cells.length) : x.cells[0] = .int .i64 x.kind := by have := Nd.c0 x; rw [List.getElem?_eq_getElem h] at this; exact Option.some.inj this
@[simp] theorem Nd.g1 (x : Nd) (h : 1 < x.cells.length) : x.cells[1] = .str x.text := by have := Nd.c1 x; rw [List.getElem?_eq_getElem h] at this; exact Option.some.inj this
@[simp] theorem Nd.g2 (x : Nd) (h : 2 < x.cells.length) : x.cells[2] = .str x.type := by have := Nd.c2 x; rw [List.getElem?_eq_getElem h] at this; exact Option.some.inj this
@[simp] theorem Nd.g3 (x : Nd) (h : 3 < x.cells.length) : x.cells[3] = .int .i64 x.n := by have := Nd.c3 x; rw [List.getElem?_eq_getElem h] at this; exact Option.some.inj this
@[simp] theorem Nd.g4 (x : Nd) (h : 4 < x.cells.length) : x.cells[4] = .int .i64 x.from_ := by have := Nd.c4 x; rw [List.getElem?_eq_getElem h] at this; exact Option.some.inj this
@[simp] theorem Nd.g5 (x : Nd) (h : 5 < x.cells.length) : x.cells[5] = .int .i64 x.to := by have := Nd.c5 x; rw [List.getElem?_eq_getElem h] at this; exact Option.some.inj this
@[simp] theorem Nd.g6 (x : Nd) (h : 6 < x.cells.length) : x.cells[6] = .int .i64 x.at_ := by have := Nd.c6 x; rw [List.getElem?_eq_getElem h] at this; exact Option.some.inj this
@[simp] theorem Nd.g7 (x : Nd) (h : 7 < x.cells.length) : x.cells[7] = .int .i64 x.typeAt := by have := Nd.c7 x; rw [List.getElem?_eq_getElem h] at this; exact Option.some.inj this
@[simp] theorem Nd.g8 (x : Nd) (h : 8 < x.cells.length) : x.cells[8] = .sl 0 (Nd.rows x.kids) := by have := Nd.c8 x; rw [List.getElem?_eq_getElem h] at this; exact Option.some.inj this
@[simp] theorem Nd.take9 (x : Nd) : x.cells.take 9 = x.cells := by simp [Nd.cells_eq]
@[simp] theorem Nd.drop9 (x : Nd) : x.cells.drop 9 = [] := by simp [Nd.cells_eq]
@[simp] theorem Nd.er_cells (x : Nd) : x.cells.map er1 = x.cells := by simp [Nd.cells_eq, er1]
@[simp] theorem Nd.frz_cells (s : AS) (x : Nd) : x.cells.map (frz1 s) = x.cells := by simp [Nd.cells_eq, frz1]
@[simp] theorem Nd.er_rows (l : List Nd) : (Nd.rows l).map (List.map er1) = Nd.rows l := by rw [Nd.rows_map]; simp
@[simp] theorem Nd.zero_cells : [.int .i64 0, .str ByteArray.empty, .str ByteArray.empty, .int .i64 0, .int .i64 0, .int .i64 0, .int .i64 0, .int .i64 0, .sl 0 []] = (default : Nd).cells := rfl
noncomputable def cx : Cx := ⟨prog, fun _ => True, fun _ _ _ _ => trivial, by kernel_rfl⟩
@[simp] theorem cx_P : cx.P = prog := rfl
@[simp high] theorem Nd.idx {tk : Nat} {l : List Nd} {k : IntKind} {n : Int} : idxAddr prog 22 (.sl tk (Nd.rows l)) (.int k n) = if 0 ≤ n ∧ n < l.length then some (.cptr (l.getD n.toNat default).cells) else none := by
  simp only [idxAddr, T.elT_22, T.szOf_24, Nd.rows_length, Nd.rows_all, if_true]
  by_cases h : 0 ≤ n ∧ n < l.length
  · rw [if_pos h, if_pos h, Nd.rows_getD (by omega)]
  · rw [if_neg h, if_neg h]
mutual
theorem Nd.pu_cells : ∀ x : Nd, puL x.cells = true
  | .mk k t y n f o a ta l => by simp [Nd.cells, puL, pu, Nd.pu_rows l]
theorem Nd.pu_rows : ∀ l : List Nd, puLL (Nd.rows l) = true
  | [] => rfl
  | x :: l => by simp [Nd.rows, puLL, Nd.pu_cells x, Nd.pu_rows l]
end
attribute [simp] Nd.pu_rows Nd.pu_cells
theorem Nd.ind' {P : Nd → Prop} (h : ∀ k t y n f o a ta l, (∀ x ∈ l, P x) → P (.mk k t y n f o a ta l)) : ∀ x, P x
  | .mk k t y n f o a ta l => h k t y n f o a ta l (fun x hx => Nd.ind' h x)
  termination_by x => x
  decreasing_by (have := List.sizeOf_lt_of_mem hx; simp_wf; omega)
theorem Nd.ind {P : Nd → Prop} (h : ∀ x : Nd, (∀ z ∈ x.kids, P z) → P x) : ∀ x, P x := Nd.ind' (fun k t y n f o a ta l hl => h (.mk k t y n f o a ta l) hl)
theorem Nd.lens {N nx t : Nat} {m : List (Nat × AV)} {ob : Obs} {lv : Lvs} {lp : Lps} {x : Nd} (h : Lens (S N m ob lv nx lp)) (ht : look m t = some (.agg x.cells)) : (x.kids.length : Int) ≤ 9223372036854775807 := by
  have := h.agg t x.cells 8 0 (Nd.rows x.kids) ht (Nd.c8 x)
  simpa using this
theorem Nd.mem_kids (x : Nd) : AV.sl 0 (Nd.rows x.kids) ∈ x.cells := by rw [Nd.cells_eq]; simp
theorem Nd.sub_kids (x : Nd) : Sub (.agg x.cells) (.sl 0 (Nd.rows x.kids)) := .agg (by rw [Nd.cells_eq]; simp) (.self _)
theorem Nd.sub_row {k : Nat} {l : List Nd} {x : Nd} (hx : x ∈ l) {y : AV} (h : Sub (.agg x.cells) y) (hy : y ≠ .agg x.cells) : Sub (.sl k (Nd.rows l)) y := by
  cases h with
  | self => exact absurd rfl hy
  | agg hc hs => exact .sl (el := x.cells) (by rw [Nd.rows_map]; exact List.mem_map_of_mem hx) hc hs
@[simp] theorem Nd.fold (k : Int) (t y : ByteArray) (n f o a ta : Int) (l : List Nd) : [AV.int .i64 k, .str t, .str y, .int .i64 n, .int .i64 f, .int .i64 o, .int .i64 a, .int .i64 ta, .sl 0 (Nd.rows l)] = (Nd.mk k t y n f o a ta l).cells := rfl
@[simp] theorem Nd.fold0 (k : Int) (t y : ByteArray) (n f o a ta : Int) : [AV.int .i64 k, .str t, .str y, .int .i64 n, .int .i64 f, .int .i64 o, .int .i64 a, .int .i64 ta, .sl 0 []] = (Nd.mk k t y n f o a ta []).cells := rfl
@[simp] theorem Nd.fold1 (k : Int) (t y : ByteArray) (n f o a ta : Int) (x : Nd) : [AV.int .i64 k, .str t, .str y, .int .i64 n, .int .i64 f, .int .i64 o, .int .i64 a, .int .i64 ta, .sl 0 [x.cells]] = (Nd.mk k t y n f o a ta [x]).cells := rfl
@[simp] theorem Nd.mk_default : Nd.mk 0 ByteArray.empty ByteArray.empty 0 0 0 0 0 [] = default := rfl
end Go.Proofs.AL
namespace Go.Proofs.AL
open Go Go.RowKit Go.Proofs.Try
set_option maxRecDepth 100000
def Nd.forever (x : Nd) : Bool := x.kind == 10 && decide (0 < x.kids.length) && (x.kids.getD 0 default).kind == 14 && (x.kids.getD 0 default).n == 1
theorem forever_ok (x : Nd) : ACall cx 24 [.agg x.cells] (.bool x.forever) none := by
  refine ACall.wpc (C := cx) T.func_24 (by kernel_rfl) rfl (by rfl) ?_
  simp [f24]
  repeat' (refine split2_i (fun h => ?_) (fun h => ?_) <;> simp [h] <;> (try simp at h) <;> (try simp [*]))
  all_goals simp_all [Nd.forever]
mutual
def Nd.ends : Nd → Bool
  | .mk k t y n f o a ta l => if k == 11 then false else if (Nd.mk k t y n f o a ta l).forever then false else if k == 9 && (l.length : Int) == 3 then Nd.endsAt l 1 || Nd.endsAt l 2 else if k != 5 then true else Nd.endsAll l
def Nd.endsAt : List Nd → Nat → Bool
  | [], _ => false
  | x :: _, 0 => x.ends
  | _ :: l, i + 1 => Nd.endsAt l i
def Nd.endsAll : List Nd → Bool
  | [] => true
  | x :: l => x.ends && Nd.endsAll l
end
theorem Nd.ends_eq (x : Nd) : x.ends = if x.kind == 11 then false else if x.forever then false else if x.kind == 9 && (x.kids.length : Int) == 3 then Nd.endsAt x.kids 1 || Nd.endsAt x.kids 2 else if x.kind != 5 then true else Nd.endsAll x.kids := by
  cases x; simp [Nd.ends]
theorem Nd.endsAt_eq : ∀ {l : List Nd} {i : Nat} (h : i < l.length), Nd.endsAt l i = l[i].ends
  | x :: l, 0, _ => by simp [Nd.endsAt]
  | x :: l, i + 1, h => by simp only [Nd.endsAt]; rw [Nd.endsAt_eq (by simpa using h)]; simp
theorem Nd.endsAll_append : ∀ (a b : List Nd), Nd.endsAll (a ++ b) = (Nd.endsAll a && Nd.endsAll b)
  | [], b => by simp [Nd.endsAll]
  | x :: a, b => by simp [Nd.endsAll, Nd.endsAll_append a b, Bool.and_assoc]
theorem Nd.endsAll_take {l : List Nd} {i : Nat} (h : i < l.length) : Nd.endsAll (l.take (i + 1)) = (Nd.endsAll (l.take i) && l[i].ends) := by
  rw [List.take_succ_eq_append_getElem h, Nd.endsAll_append]; simp [Nd.endsAll]
theorem Nd.endsAll_drop {l : List Nd} {i : Nat} (h : i < l.length) : Nd.endsAll (l.drop i) = (l[i].ends && Nd.endsAll (l.drop (i + 1))) := by
  rw [List.drop_eq_getElem_cons h]; simp [Nd.endsAll]
theorem ends_ok (x : Nd) : ACall cx 11 [.agg x.cells] (.bool x.ends) none := by
  induction x using Nd.ind with | _ x ih
  refine ACall.wpl (C := cx) T.func_11 (by kernel_rfl) rfl (by rfl) (fun hL => ?_)
  have hlen := Nd.lens (x := x) (t := 0) hL (by simp)
  clear hL
  simp [f11]
  refine split2_i (fun h1 => ?_) (fun h1 => ?_) <;> simp [h1]
  · simp_all [Nd.ends_eq x]
  refine callP_i (forever_ok ..) ?_
  simp
  refine split2_i (fun h2 => ?_) (fun h2 => ?_) <;> simp [h1, h2]
  · simp_all [Nd.ends_eq x]
  refine split2_i (fun h3 => ?_) (fun h3 => ?_) <;> simp [h3]
  refine split2_i (fun h4 => ?_) (fun h4 => ?_) <;> simp [h4]
  · have h5 : x.kids.length = 3 := by simp at h4; omega
    simp [h5]
    refine callP_i (ih _ (List.getElem_mem _)) ?_
    simp
    refine split2_i (fun h6 => ?_) (fun h6 => ?_) <;> simp [h6]
    · simp_all [Nd.ends_eq x, Nd.endsAt_eq]
    · simp [h5]
      refine callP_i (ih _ (List.getElem_mem _)) ?_
      clear ih
      simp at h1 h3
      simp [Nd.ends_eq x, Nd.endsAt_eq, *]
  all_goals (refine split2_i (fun h5 => ?_) (fun h5 => ?_) <;> simp [h5])
  any_goals (simp_all [Nd.ends_eq x]; done)
  all_goals
    refine loopK [1, 39, 40] (fun i _ => i ≤ x.kids.length ∧ Nd.endsAll (x.kids.drop i) = Nd.endsAll x.kids) (fun i => [(41, .int .i64 (i : Nat))]) (fun _ => [x.cells]) (fun _ => []) (fun i => x.kids.length - i) 0 ⟨by simp, by simp⟩ (by simp) [] rfl (by simp) ?_
    rintro i nx g ⟨hi, hd⟩ - -
    simp
    refine split2_i (fun h6 => ?_) (fun h6 => ?_) <;> simp [h6]
    · simp at h6
      simp [h6]
      refine callP_i (ih _ (List.getElem_mem _)) ?_
      simp
      rw [Nd.endsAll_drop h6] at hd
      refine split2_i (fun h7 => ?_) (fun h7 => ?_) <;> simp [h7]
      rotate_left
      · simp [h7] at hd
        simp_all [Nd.ends_eq x]
      · simp [h7] at hd
        exact againK_i (i + 1) _ ⟨h6, hd⟩ (by omega) (by simp [wrap64_i h6 hlen]) rfl (by simp)
    · simp at h6
      have : i = x.kids.length := by omega
      subst this
      simp_all [Nd.ends_eq x, Nd.endsAll]
end Go.Proofs.AL
namespace Go.Proofs.AL
open Go Go.RowKit Go.Proofs.Try
set_option maxRecDepth 100000
mutual
def Nd.all (kind : Int) : Nd → List Nd
  | .mk k t y n f o a ta l => (if kind = 0 ∨ k = kind then [Nd.mk k t y n f o a ta l] else []) ++ Nd.allL kind l
def Nd.allL (kind : Int) : List Nd → List Nd
  | [] => []
  | x :: l => x.all kind ++ Nd.allL kind l
end
mutual
def Nd.count : Nd → Nat
  | .mk _ _ _ _ _ _ _ _ l => Nd.countL l + 1
def Nd.countL : List Nd → Nat
  | [] => 0
  | x :: l => x.count + Nd.countL l
end
theorem Nd.all_eq (kind : Int) (x : Nd) : x.all kind = (if kind = 0 ∨ x.kind = kind then [x] else []) ++ Nd.allL kind x.kids := by cases x; rw [Nd.all]; rfl
theorem Nd.count_eq (x : Nd) : x.count = Nd.countL x.kids + 1 := by cases x; rw [Nd.count]; rfl
mutual
theorem Nd.all_le (kind : Int) : ∀ x : Nd, (x.all kind).length ≤ x.count
  | .mk k t y n f o a ta l => by
    have := Nd.allL_le kind l
    rw [Nd.all, Nd.count]
    split <;> simp <;> omega
theorem Nd.allL_le (kind : Int) : ∀ l : List Nd, (Nd.allL kind l).length ≤ Nd.countL l
  | [] => by simp [Nd.allL]
  | x :: l => by
    have h1 := Nd.all_le kind x
    have h2 := Nd.allL_le kind l
    simp [Nd.allL, Nd.countL]; omega
end
mutual
theorem Nd.all0 : ∀ x : Nd, (x.all 0).length = x.count
  | .mk k t y n f o a ta l => by
    have := Nd.allL0 l
    rw [Nd.all, Nd.count]
    simp; omega
theorem Nd.allL0 : ∀ l : List Nd, (Nd.allL 0 l).length = Nd.countL l
  | [] => by simp [Nd.allL, Nd.countL]
  | x :: l => by
    have h1 := Nd.all0 x
    have h2 := Nd.allL0 l
    simp [Nd.allL, Nd.countL]; omega
end
theorem Nd.countL_append : ∀ a b : List Nd, Nd.countL (a ++ b) = Nd.countL a + Nd.countL b
  | [], b => by simp [Nd.countL]
  | x :: a, b => by simp [Nd.countL, Nd.countL_append a b]; omega
theorem Nd.allL_append (kind : Int) : ∀ a b : List Nd, Nd.allL kind (a ++ b) = Nd.allL kind a ++ Nd.allL kind b
  | [], b => by simp [Nd.allL]
  | x :: a, b => by simp [Nd.allL, Nd.allL_append kind a b]
theorem Nd.allL_take (kind : Int) {l : List Nd} {i : Nat} (h : i < l.length) : Nd.allL kind (l.take (i + 1)) = Nd.allL kind (l.take i) ++ l[i].all kind := by
  rw [List.take_succ_eq_append_getElem h, Nd.allL_append]; simp [Nd.allL]
theorem Nd.countL_take {l : List Nd} {i : Nat} (h : i < l.length) : Nd.countL (l.take (i + 1)) = Nd.countL (l.take i) + l[i].count := by
  rw [List.take_succ_eq_append_getElem h, Nd.countL_append]; simp [Nd.countL]
theorem Nd.countL_take_le (l : List Nd) (i : Nat) : Nd.countL (l.take i) ≤ Nd.countL l := by
  conv => rhs; rw [← List.take_append_drop i l, Nd.countL_append]
  omega
theorem Nd.count_get {l : List Nd} {i : Nat} (h : i < l.length) : l[i].count ≤ Nd.countL l := by
  have h1 := Nd.countL_take h
  have h2 := Nd.countL_take_le l (i + 1)
  omega
theorem b104 {n : Nat} (h : n ≤ 10000000) : n * 104 ≤ 140737488355328 := by omega
theorem all_ok (x : Nd) (kind : Int) (hb : x.count ≤ 10000000) : ACall cx 37 [.agg x.cells, .int .i64 kind] (.sl 0 (Nd.rows (x.all kind))) (some (0, 24)) := by
  induction x using Nd.ind with | _ x ih
  refine ACall.wpl (C := cx) T.func_37 (by kernel_rfl) rfl (by rfl) (fun hL => ?_)
  have hlen := Nd.lens (x := x) (t := 0) hL (by simp)
  clear hL
  rw [Nd.count_eq] at hb
  simp [f37]
  refine split2_i (fun h1 => ?_) (fun h1 => ?_) <;> simp [h1]
  rotate_left
  refine split2_i (fun h2 => ?_) (fun h2 => ?_) <;> simp [h2]
  all_goals
    first
    | (refine loopK [2, 1] (fun (p : Nat × Nat) nx => p.1 ≤ x.kids.length ∧ p.2 ≠ 0 ∧ p.2 ≠ 2 ∧ p.2 < nx) (fun p => [(6, .int .i64 (p.1 : Nat)), (5, .sl p.2 (Nd.rows ((if kind = 0 ∨ x.kind = kind then [x] else []) ++ Nd.allL kind (x.kids.take p.1))))]) (fun _ => [x.cells]) (fun p => [(p.2, 24)]) (fun p => x.kids.length - p.1) (0, 1) ⟨by simp, by simp, by simp, by simp⟩ ?hu [] rfl (by simp) ?_; case hu => clear ih; simp at h1; simp [Nd.allL, *]; done)
    | (refine loopK [2, 1] (fun (p : Nat × Nat) nx => p.1 ≤ x.kids.length ∧ p.2 ≠ 0 ∧ p.2 ≠ 2 ∧ p.2 < nx) (fun p => [(6, .int .i64 (p.1 : Nat)), (5, .sl p.2 (Nd.rows ((if kind = 0 ∨ x.kind = kind then [x] else []) ++ Nd.allL kind (x.kids.take p.1))))]) (fun _ => [x.cells]) (fun p => [(p.2, 24)]) (fun p => x.kids.length - p.1) (0, 3) ⟨by simp, by simp, by simp, by simp⟩ ?hu [] rfl (by simp) ?_; case hu => clear ih; simp at h1; simp [Nd.allL, Nd.rows_one, *]; done)
    | (refine loopK [2, 1] (fun (p : Nat × Nat) nx => p.1 ≤ x.kids.length ∧ p.2 ≠ 0 ∧ p.2 ≠ 2 ∧ p.2 < nx) (fun p => [(6, .int .i64 (p.1 : Nat)), (5, .sl p.2 (Nd.rows ((if kind = 0 ∨ x.kind = kind then [x] else []) ++ Nd.allL kind (x.kids.take p.1))))]) (fun _ => [x.cells]) (fun p => [(p.2, 24)]) (fun p => x.kids.length - p.1) (0, 3) ⟨by simp, by simp, by simp, by simp⟩ ?hu [] rfl (by simp) ?_; case hu => clear ih; simp at h1 h2; simp [Nd.allL, Nd.rows_one, *]; done)
    | (refine loopK [2, 1] (fun (p : Nat × Nat) nx => p.1 ≤ x.kids.length ∧ p.2 ≠ 0 ∧ p.2 ≠ 2 ∧ p.2 < nx) (fun p => [(6, .int .i64 (p.1 : Nat)), (5, .sl p.2 (Nd.rows ((if kind = 0 ∨ x.kind = kind then [x] else []) ++ Nd.allL kind (x.kids.take p.1))))]) (fun _ => [x.cells]) (fun p => [(p.2, 24)]) (fun p => x.kids.length - p.1) (0, 1) ⟨by simp, by simp, by simp, by simp⟩ ?hu [] rfl (by simp) ?_; case hu => clear ih; simp at h1 h2; simp [Nd.allL, Nd.rows_one, *]; done)
    rintro ⟨i, k⟩ nx g ⟨hi, hk, hk2, hkn⟩ hnx -
    dsimp only at hi hk hk2 hkn
    simp
    refine split2_i (fun h3 => ?_) (fun h3 => ?_) <;> simp [h3]
    · simp at h3
      have c1 := Nd.count_get h3
      have c2 := Nd.countL_take h3
      have c3 := Nd.countL_take_le x.kids (i + 1)
      have c4 := Nd.allL_le kind (x.kids.take i)
      have c5 := Nd.all_le kind x.kids[i]
      simp [h3]
      refine callP_i (ih _ (List.getElem_mem _) (by omega)) ?_
      simp
      have c6 : ((if kind = 0 ∨ x.kind = kind then [x] else []) : List Nd).length ≤ 1 := by split <;> simp
      have hkn' : ¬ nx = k := by omega
      simp [hk, hk2, hkn']
      refine ⟨b104 (by omega), ?_⟩
      exact againK_i (i + 1, nx + 1) _ ⟨h3, by simp, by dsimp only; omega, by simp⟩ (by dsimp only; omega) (by simp [wrap64_i h3 hlen, Nd.allL_take kind h3]) rfl (by simp)
    · simp at h3
      have : i = x.kids.length := by omega
      subst this
      simp [Nd.all_eq kind x, hk, hk2, ownOf]
theorem count_ok (x : Nd) (hb : x.count ≤ 10000000) : ACall cx 22 [.agg x.cells] (.int .i64 x.count) none := by
  refine ACall.wpc (C := cx) T.func_22 (by kernel_rfl) rfl (by rfl) ?_
  simp [f22]
  refine callP_i (all_ok x 0 hb) ?_
  simp [Nd.all0]
mutual
def Nd.deep : Nd → Int → Bool
  | .mk _ _ _ _ _ _ _ _ l, most => if most ≤ 0 then true else Nd.deepL l (IntKind.i64.wrap (most - 1))
def Nd.deepL : List Nd → Int → Bool
  | [], _ => false
  | x :: l, most => x.deep most || Nd.deepL l most
end
theorem Nd.deep_eq (x : Nd) (most : Int) : x.deep most = if most ≤ 0 then true else Nd.deepL x.kids (IntKind.i64.wrap (most - 1)) := by cases x; rw [Nd.deep]; rfl
theorem Nd.deepL_drop {l : List Nd} {i : Nat} {most : Int} (h : i < l.length) : Nd.deepL (l.drop i) most = (l[i].deep most || Nd.deepL (l.drop (i + 1)) most) := by
  rw [List.drop_eq_getElem_cons h]; simp [Nd.deepL]
theorem deep_ok (x : Nd) (most : Int) : ACall cx 21 [.agg x.cells, .int .i64 most] (.bool (x.deep most)) none := by
  induction x using Nd.ind generalizing most with | _ x ih
  refine ACall.wpl (C := cx) T.func_21 (by kernel_rfl) rfl (by rfl) (fun hL => ?_)
  have hlen := Nd.lens (x := x) (t := 0) hL (by simp)
  clear hL
  simp [f21]
  refine split2_i (fun h1 => ?_) (fun h1 => ?_) <;> simp [h1]
  · clear ih; simp at h1; simp [Nd.deep_eq x, h1]
  refine loopK [2, 1] (fun i _ => i ≤ x.kids.length ∧ Nd.deepL (x.kids.drop i) (IntKind.i64.wrap (most - 1)) = Nd.deepL x.kids (IntKind.i64.wrap (most - 1))) (fun i => [(5, .int .i64 (i : Nat))]) (fun _ => [x.cells]) (fun _ => []) (fun i => x.kids.length - i) 0 ⟨by simp, by simp⟩ (by simp) [] rfl (by simp) ?_
  rintro i nx g ⟨hi, hd⟩ - -
  simp
  refine split2_i (fun h3 => ?_) (fun h3 => ?_) <;> simp [h3]
  · simp at h3
    simp [h3]
    refine callP_i (ih _ (List.getElem_mem _) _) ?_
    simp
    rw [Nd.deepL_drop h3] at hd
    refine split2_i (fun h4 => ?_) (fun h4 => ?_) <;> simp [h4]
    · clear ih; simp at h1; simp [h4] at hd; simp [Nd.deep_eq x, *]
    · simp [h4] at hd
      exact againK_i (i + 1) _ ⟨h3, hd⟩ (by omega) (by simp [wrap64_i h3 hlen]) rfl (by simp)
  · simp at h3
    have : i = x.kids.length := by omega
    subst this
    clear ih; simp at h1; simp [Nd.deepL] at hd; simp [Nd.deep_eq x, *]
theorem Nd.ext_iff (a b : Nd) : a = b ↔ a.from_ = b.from_ ∧ a.to = b.to ∧ a.at_ = b.at_ ∧ a.typeAt = b.typeAt ∧ a.kind = b.kind ∧ a.text = b.text ∧ a.type = b.type ∧ a.n = b.n ∧ a.kids = b.kids := by
  cases a; cases b; simp; constructor
  · rintro ⟨rfl, rfl, rfl, rfl, rfl, rfl, rfl, rfl, rfl⟩; simp
  · rintro ⟨rfl, rfl, rfl, rfl, rfl, rfl, rfl, rfl, rfl⟩; simp
noncomputable instance : DecidableEq Nd := fun _ _ => Classical.propDecidable _
theorem take_eq_succ {α : Type} {a b : List α} {i : Nat} (h1 : i < a.length) (h2 : i < b.length) (h : a.take i = b.take i) : (a.take (i + 1) = b.take (i + 1)) = (a[i] = b[i]) := by
  rw [List.take_succ_eq_append_getElem h1, List.take_succ_eq_append_getElem h2, h]; exact propext ⟨fun e => by have := List.append_cancel_left e; injection this, fun e => by rw [e]⟩
set_option maxHeartbeats 4000000 in
theorem exact_ok (a b : Nd) : ACall cx 13 [.agg a.cells, .agg b.cells] (.bool (decide (a = b))) none := by
  induction a using Nd.ind generalizing b with | _ a ih
  refine ACall.wpl (C := cx) T.func_13 (by kernel_rfl) rfl (by rfl) (fun hL => ?_)
  have hlen := Nd.lens (x := a) (t := 0) hL (by simp)
  have hlen' := Nd.lens (x := b) (t := 1) hL (by simp)
  clear hL
  simp [f13]
  repeat' ((with_reducible refine split2_i (fun h => ?_) (fun h => ?_)) <;> simp [h])
  any_goals (clear ih; simp_all [Nd.ext_iff a b]; done)
  · clear ih
    simp at h
    intro e; subst e; exact h rfl
  have h9 := h
  have hl : a.kids.length = b.kids.length := by simp at h9; omega
  refine loopK [2, 3] (fun i _ => i ≤ a.kids.length ∧ a.kids.take i = b.kids.take i) (fun i => [(5, .int .i64 (i : Nat))]) (fun _ => [a.cells, b.cells]) (fun _ => []) (fun i => a.kids.length - i) 0 ⟨by simp, by simp⟩ (by simp) [] rfl (by simp) ?_
  rintro i nx g ⟨hi, hd⟩ - -
  simp
  refine split2_i (fun h3 => ?_) (fun h3 => ?_) <;> simp [h3]
  · simp at h3
    have h3' : i < b.kids.length := by omega
    simp [h3, h3']
    refine callP_i (ih _ (List.getElem_mem _) _) ?_
    simp
    refine ⟨by kernel_rfl, ?_⟩
    have he := take_eq_succ h3 h3' hd
    refine split2_i (fun h4 => ?_) (fun h4 => ?_) <;> simp [h4]
    · simp at h4
      exact againK_i (i + 1) _ ⟨h3, by rw [he]; exact h4⟩ (by omega) (by simp [wrap64_i h3 hlen]) rfl (by simp)
    · clear ih
      simp at h4
      intro e
      subst e
      exact h4 rfl
  · clear ih
    simp at h3
    have : i = a.kids.length := by omega
    subst this
    have hk : a.kids = b.kids := by
      have := hd
      rw [List.take_length, hl, List.take_length] at this
      exact this
    simp_all [Nd.ext_iff a b]
end Go.Proofs.AL
namespace Go.Proofs.AL
open Go Go.RowKit Go.Proofs.Try
set_option maxRecDepth 100000
theorem refEnds_ok (x : Nd) : ACall cx 12 [.agg x.cells] (.bool x.ends) none := by
  induction x using Nd.ind with | _ x ih
  refine ACall.wpl (C := cx) T.func_12 (by kernel_rfl) rfl (by rfl) (fun hL => ?_)
  have hlen := Nd.lens (x := x) (t := 0) hL (by simp)
  clear hL
  simp [f12]
  refine split2_i (fun h1 => ?_) (fun h1 => ?_) <;> simp [h1]
  · simp_all [Nd.ends_eq x]
  refine split2_i (fun h2 => ?_) (fun h2 => ?_) <;> simp [h2]
  · by_cases h0 : x.kids.length = 0
    · clear ih; simp at h1 h2
      simp [Nd.ends_eq x, Nd.forever, *]
    · have h0' : ((x.kids.length : Int) == 0) = false := by simp; intro h; simp [h] at h0
      have h0'' : 0 < x.kids.length := by omega
      simp [h0', h0'']
      refine split2_i (fun h => ?_) (fun h => ?_) <;> simp [h, h0'']
      all_goals (clear ih; simp at h1 h2 h; by_cases hn : x.kids[0].n = 1 <;> simp [Nd.ends_eq x, Nd.forever, *])
  refine split2_i (fun h3 => ?_) (fun h3 => ?_) <;> simp [h3]
  · refine split2_i (fun h4 => ?_) (fun h4 => ?_) <;> simp [h4]
    · clear ih; simp at h1 h2 h3 h4
      simp [Nd.ends_eq x, *, Nd.forever]
    · have h5 : x.kids.length = 3 := by simp at h4; omega
      simp [h5]
      refine callP_i (ih _ (List.getElem_mem _)) ?_
      simp [h5]
      refine callP_i (ih _ (List.getElem_mem _)) ?_
      simp
      clear ih
      refine split2_i (fun h6 => ?_) (fun h6 => ?_) <;> simp [h6]
      all_goals simp at h6 h1 h2 h3
      all_goals simp [Nd.ends_eq x, *, Nd.endsAt_eq, Nd.forever]
  refine split2_i (fun h4 => ?_) (fun h4 => ?_) <;> simp [h4]
  · refine loopK [1] (fun i _ => i ≤ x.kids.length ∧ Nd.endsAll (x.kids.drop i) = Nd.endsAll x.kids) (fun i => [(5, .int .i64 (i : Nat))]) (fun _ => [x.cells]) (fun _ => []) (fun i => x.kids.length - i) 0 ⟨by simp, by simp⟩ (by simp) [] rfl (by simp) ?_
    rintro i nx g ⟨hi, hd⟩ - -
    simp
    refine split2_i (fun h6 => ?_) (fun h6 => ?_) <;> simp [h6]
    · simp at h6
      simp [h6]
      refine callP_i (ih _ (List.getElem_mem _)) ?_
      simp
      rw [Nd.endsAll_drop h6] at hd
      refine split2_i (fun h7 => ?_) (fun h7 => ?_) <;> simp [h7]
      · simp [h7] at hd
        exact againK_i (i + 1) _ ⟨h6, hd⟩ (by omega) (by simp [wrap64_i h6 hlen]) rfl (by simp)
      · clear ih
        simp [h7] at hd
        simp at h1 h2 h3 h4
        simp [Nd.ends_eq x, Nd.forever, *]
    · simp at h6
      have : i = x.kids.length := by omega
      subst this
      clear ih
      simp [Nd.endsAll] at hd
      simp at h1 h2 h3 h4
      simp [Nd.ends_eq x, Nd.forever, *]
  · clear ih
    simp at h1 h2 h3 h4
    simp [Nd.ends_eq x, Nd.forever, *]
theorem steps_ok (l : List Nd) : ACall cx 23 [.sl 0 (Nd.rows l)] (.fn (.func 38) [] [.cptr [.sl 0 (Nd.rows l)]]) none := by
  refine ACall.wpc (C := cx) T.func_23 (by kernel_rfl) rfl (by rfl) ?_
  simp [f23]
def stepVs (l : List Nd) : List (List AV) := l.mapIdx fun i x => [.bool (Nd.endsAll (l.take i)), .agg x.cells]
@[simp] theorem stepVs_length (l : List Nd) : (stepVs l).length = l.length := by simp [stepVs]
@[simp] theorem stepVs_get (l : List Nd) (i : Nat) (h : i < (stepVs l).length) : (stepVs l)[i] = [.bool (Nd.endsAll (l.take i)), .agg (l[i]'(by simpa using h)).cells] := by simp [stepVs]
theorem stepVs_all (l : List Nd) : ∀ v ∈ stepVs l, 2 = v.length := by
  intro v hv
  obtain ⟨i, hi, rfl⟩ := List.mem_iff_getElem.1 hv
  simp
theorem steps_seq (l : List Nd) : IsSeq cx 38 [.cptr [.sl 0 (Nd.rows l)]] (stepVs l) := by
  refine ⟨⟨f38, _, T.func_38, by kernel_rfl, rfl⟩, fun y k0 J Stop lp hY c lv nx N m hc hJ => ?_⟩
  refine JCall.wpc (C := cx) T.func_38 (by kernel_rfl) rfl (by rfl) (fun hL => ?_)
  clear hL
  simp [f38]
  refine loopC_lens (fun hL => ?_)
  have hlen : (l.length : Int) ≤ 9223372036854775807 := by simpa using hL.tm 6 0 (Nd.rows l) (by simp)
  clear hL
  refine loopK [0, 6, 7] (fun (p : Nat × Obs × Lvs) nx => p.1 ≤ l.length ∧ p.2.1.length = k0 ∧ J p.1 p.2.1 p.2.2 nx lp) (fun p => [(8, .int .i64 (p.1 : Nat)), (3, .bool (Nd.endsAll (l.take p.1)))]) (fun p => p.2.1) (fun p => p.2.2) (fun p => l.length - p.1)
    (0, c, lv) ⟨by simp, hc, hJ⟩ (by simp [Nd.endsAll]) [] (by simp) (by simp) ?_
  rintro ⟨i, c1, lv1⟩ nx1 r1 ⟨hi, hc1, hJ1⟩ - -
  dsimp only at hi hc1 hJ1
  simp
  refine split2_i (fun h1 => ?_) (fun h1 => ?_) <;> simp [h1]
  · simp at h1
    simp [h1]
    have hy := hY i (by simpa using h1) c1 (r1 ++ [l[i].cells]) lv1 nx1
    rw [stepVs_get] at hy
    refine yieldP_i (hy _ _ hc1 hJ1) ?_
    rintro b s2 ⟨c2, r2, lv2, nx2, lp2, hc2, e1, e2, e3, e4, hb⟩
    rw [S_ret e1 e2 e3 e4]
    rcases hb with ⟨rfl, rfl, hJ2⟩ | ⟨rfl, hS⟩
    · have hcc : c1.length = c2.length := by omega
      simp only [hcc]
      simp
      refine split2_i (fun h2 => ?_) (fun h2 => ?_) <;> simp [h2]
      · refine callP_i (ends_ok ..) ?_
        simp
        exact againK_i (i + 1, c2, lv2) _ ⟨h1, hc2, hJ2⟩ (by dsimp only; omega) (by simp [wrap64_i h1 hlen, Nd.endsAll_take h1, h2]) rfl (by simp)
      · exact againK_i (i + 1, c2, lv2) _ ⟨h1, hc2, hJ2⟩ (by dsimp only; omega) (by simp [wrap64_i h1 hlen, Nd.endsAll_take h1, h2]) rfl (by simp)
    · simp
      exact ⟨c2, _, lv2, nx2, lp2, hc2, rfl, rfl, rfl, rfl, .inr hS⟩
  · simp at h1
    have : i = l.length := by omega
    subst this
    simp
    exact ⟨c1, _, lv1, nx1, lp, hc1, rfl, rfl, rfl, rfl, .inl ⟨rfl, hJ1⟩⟩
mutual
def Nd.reached : Nd → Int
  | .mk k _ _ _ _ _ _ _ l => if k < 5 then 0 else if 12 < k then 0 else Nd.reachKids (k == 5) l true 1
def Nd.reachKids (blk : Bool) : List Nd → Bool → Int → Int
  | [], _, acc => acc
  | x :: l, up, acc => if blk && !up then acc else Nd.reachKids blk l (up && x.ends) (IntKind.i64.wrap (acc + x.reached))
end
theorem Nd.reached_eq (x : Nd) : x.reached = if x.kind < 5 then 0 else if 12 < x.kind then 0 else Nd.reachKids (x.kind == 5) x.kids true 1 := by cases x; rw [Nd.reached]; rfl
theorem Nd.reachKids_drop {b : Bool} {l : List Nd} {i : Nat} {up : Bool} {acc : Int} (h : i < l.length) : Nd.reachKids b (l.drop i) up acc = if b && !up then acc else Nd.reachKids b (l.drop (i + 1)) (up && l[i].ends) (IntKind.i64.wrap (acc + l[i].reached)) := by
  rw [List.drop_eq_getElem_cons h]; simp [Nd.reachKids]
theorem reached_ok (x : Nd) : ACall cx 14 [.agg x.cells] (.int .i64 x.reached) none := by
  induction x using Nd.ind with | _ x ih
  refine ACall.wpc (C := cx) T.func_14 (by kernel_rfl) rfl (by rfl) ?_
  simp [f14]
  refine split2_i (fun h1 => ?_) (fun h1 => ?_) <;> simp [h1]
  · simp_all [Nd.reached_eq x]
  refine split2_i (fun h2 => ?_) (fun h2 => ?_) <;> simp [h2]
  · simp_all [Nd.reached_eq x]
  refine callP_i (steps_ok _) ?_
  simp
  refine range_seq (stepVs x.kids) (fun i c lv nx => ∃ acc, c = [x.cells, [.int .i64 acc]] ∧ lv = [] ∧ Nd.reachKids (x.kind == 5) x.kids true 1 = Nd.reachKids (x.kind == 5) (x.kids.drop i) (Nd.endsAll (x.kids.take i)) acc)
    (by simp) (by simp) (steps_seq _) (stepVs_all _) (by simp) ⟨1, rfl, rfl, by simp [Nd.endsAll]⟩ ?_ ?_
  · rintro l lp1 lp2 i hi c rest lv nx - ⟨acc, rfl, rfl, he⟩ -
    have hi' : i < x.kids.length := by simpa using hi
    rw [Nd.reachKids_drop hi'] at he
    rw [stepVs_get]
    simp
    refine split2_i (fun h3 => ?_) (fun h3 => ?_) <;> simp [h3]
    refine split2_i (fun h4 => ?_) (fun h4 => ?_) <;> simp [h4]
    rotate_left
    · refine rOut_i [x.cells, [.int .i64 acc]] _ rfl rfl (fun g => ?_)
      simp [h3, h4] at he
      simp_all [Nd.reached_eq x]
    all_goals
      refine callP_i (ih _ (List.getElem_mem _)) ?_
      simp
      refine ⟨by kernel_rfl, ?_⟩
      exact rNext_i [x.cells, [.int .i64 (IntKind.i64.wrap (acc + x.kids[i].reached))]] _ [] rfl rfl rfl ⟨_, rfl, rfl, by simp_all [Nd.endsAll_take hi']⟩
  · rintro c rest lv nx - ⟨acc, rfl, rfl, he⟩
    simp [Nd.reachKids] at he
    simp
    clear ih
    simp at h1 h2
    simp [Nd.reached_eq x, *]
    omega
end Go.Proofs.AL
namespace Go.Proofs.AL
open Go Go.RowKit Go.Proofs.Try
set_option maxRecDepth 100000
def Nd.stmt (x : Nd) : Bool := decide (5 ≤ x.kind) && decide (x.kind ≤ 12)
theorem statement_ok (x : Nd) : ACall cx 25 [.agg x.cells] (.bool x.stmt) none := by
  refine ACall.wpc (C := cx) T.func_25 (by kernel_rfl) rfl (by rfl) ?_
  simp [f25]
  refine split2_i (fun h => ?_) (fun h => ?_) <;> simp [h]
  all_goals (simp_all [Nd.stmt] <;> omega)
mutual
def Nd.reached2 : Nd → Int
  | .mk k _ _ _ _ _ _ _ l => if k < 5 then 0 else if 12 < k then 0 else Nd.reachKids2 (k == 5) l 1
def Nd.reachKids2 (blk : Bool) : List Nd → Int → Int
  | [], acc => acc
  | x :: l, acc => if blk && !x.ends then IntKind.i64.wrap (acc + x.reached2) else Nd.reachKids2 blk l (IntKind.i64.wrap (acc + x.reached2))
end
theorem Nd.reached2_eq (x : Nd) : x.reached2 = if x.kind < 5 then 0 else if 12 < x.kind then 0 else Nd.reachKids2 (x.kind == 5) x.kids 1 := by cases x; rw [Nd.reached2]; rfl
theorem Nd.reachKids_down (l : List Nd) (acc : Int) : Nd.reachKids true l false acc = acc := by cases l <;> simp [Nd.reachKids]
theorem Nd.reachKids_skip {b : Bool} (hb : b = false) : ∀ (l : List Nd) (up up' : Bool) (acc : Int), Nd.reachKids b l up acc = Nd.reachKids b l up' acc
  | [], _, _, _ => by simp [Nd.reachKids]
  | x :: l, up, up', acc => by subst hb; simp only [Nd.reachKids, Bool.false_and]; exact Nd.reachKids_skip rfl l _ _ _
mutual
theorem Nd.reached2_same : ∀ x : Nd, x.reached2 = x.reached
  | .mk k t y n f o a ta l => by rw [Nd.reached2, Nd.reached, Nd.reachKids2_same (k == 5) l 1]
theorem Nd.reachKids2_same (b : Bool) : ∀ (l : List Nd) (acc : Int), Nd.reachKids2 b l acc = Nd.reachKids b l true acc
  | [], acc => by simp [Nd.reachKids2, Nd.reachKids]
  | x :: l, acc => by
    have h1 := Nd.reached2_same x
    simp only [Nd.reachKids2, Nd.reachKids, h1, Bool.not_true, Bool.and_false, Bool.true_and, Nd.reachKids2_same b l]
    cases b with
    | false => simp; exact Nd.reachKids_skip rfl l _ _ _
    | true =>
      cases x.ends with
      | true => simp
      | false => simp [Nd.reachKids_down]
end
theorem Nd.reachKids2_drop {b : Bool} {l : List Nd} {i : Nat} {acc : Int} (h : i < l.length) : Nd.reachKids2 b (l.drop i) acc = if b && !l[i].ends then IntKind.i64.wrap (acc + l[i].reached2) else Nd.reachKids2 b (l.drop (i + 1)) (IntKind.i64.wrap (acc + l[i].reached2)) := by
  rw [List.drop_eq_getElem_cons h]; simp [Nd.reachKids2]
theorem refReached_ok (x : Nd) : ACall cx 15 [.agg x.cells] (.int .i64 x.reached2) none := by
  induction x using Nd.ind with | _ x ih
  refine ACall.wpl (C := cx) T.func_15 (by kernel_rfl) rfl (by rfl) (fun hL => ?_)
  have hlen := Nd.lens (x := x) (t := 0) hL (by simp)
  clear hL
  simp [f15]
  refine callP_i (statement_ok _) ?_
  simp
  refine split2_i (fun h1 => ?_) (fun h1 => ?_) <;> simp [h1]
  rotate_left
  · clear ih
    simp only [Nd.stmt] at h1
    rw [Nd.reached2_eq]
    by_cases h2 : x.kind < 5
    · simp [h2]
    · have : ¬ x.kind ≤ 12 := by simp at h1; exact fun h => by have := h1 (by omega); omega
      simp [h2]; intro h3; omega
  refine loopK [1] (fun (p : Nat × Int) _ => p.1 ≤ x.kids.length ∧ Nd.reachKids2 (x.kind == 5) (x.kids.drop p.1) p.2 = Nd.reachKids2 (x.kind == 5) x.kids 1) (fun p => [(4, .int .i64 (p.1 : Nat)), (3, .int .i64 p.2)]) (fun _ => [x.cells]) (fun _ => []) (fun p => x.kids.length - p.1) (0, 1) ⟨by simp, by simp⟩ (by simp) [] rfl (by simp) ?_
  rintro ⟨i, acc⟩ nx g ⟨hi, hd⟩ - -
  dsimp only at hi hd
  simp
  refine split2_i (fun h3 => ?_) (fun h3 => ?_) <;> simp [h3]
  · simp at h3
    simp [h3]
    refine callP_i (ih _ (List.getElem_mem _)) ?_
    simp [h3]
    refine callP_i (refEnds_ok _) ?_
    simp
    rw [Nd.reachKids2_drop h3] at hd
    have fin : x.reached2 = Nd.reachKids2 (x.kind == 5) x.kids 1 := by
      clear ih
      simp [Nd.stmt] at h1
      rw [Nd.reached2_eq, if_neg (by omega), if_neg (by omega)]
    refine split2_i (fun h4 => ?_) (fun h4 => ?_) <;> simp [h4]
    · refine split2_i (fun h5 => ?_) (fun h5 => ?_) <;> simp [h5]
      · simp [h4, h5] at hd
        exact againK_i (i + 1, IntKind.i64.wrap (acc + x.kids[i].reached2)) _ ⟨h3, hd⟩ (by dsimp only; omega) (by simp [wrap64_i h3 hlen]) rfl (by simp)
      · simp [h4, h5] at hd
        rw [fin, h4, ← hd]
    · simp [h4] at hd
      exact againK_i (i + 1, IntKind.i64.wrap (acc + x.kids[i].reached2)) _ ⟨h3, hd⟩ (by dsimp only; omega) (by simp [wrap64_i h3 hlen]) rfl (by simp)
  · simp at h3
    have : i = x.kids.length := by omega
    subst this
    clear ih
    simp [Nd.reachKids2] at hd
    simp [Nd.stmt] at h1
    rw [Nd.reached2_eq, if_neg (by omega), if_neg (by omega)]
    exact hd.symm
mutual
def Nd.dead : Nd → Option Nd
  | .mk k _ _ _ _ _ _ _ l => Nd.deadL (k == 5) l true
def Nd.deadL (blk : Bool) : List Nd → Bool → Option Nd
  | [], _ => none
  | x :: l, up => if blk && !up then some x else match x.dead with
    | some d => some d
    | none => Nd.deadL blk l (up && x.ends)
end
theorem Nd.dead_eq (x : Nd) : x.dead = Nd.deadL (x.kind == 5) x.kids true := by cases x; rw [Nd.dead]; rfl
theorem Nd.deadL_drop {b : Bool} {l : List Nd} {i : Nat} {up : Bool} (h : i < l.length) : Nd.deadL b (l.drop i) up = if b && !up then some l[i] else match l[i].dead with | some d => some d | none => Nd.deadL b (l.drop (i + 1)) (up && l[i].ends) := by
  rw [List.drop_eq_getElem_cons h]; simp [Nd.deadL]
def deadAV (o : Option Nd) : AV := .tup [.agg (o.getD default).cells, .bool o.isSome]
/-- A node that holds nothing yet. -/
def zeroNd (c : List AV) : Prop := c.length = 9 ∧ c.map er1 = (default : Nd).cells
theorem refDead_ok (x : Nd) : ACall cx 10 [.agg x.cells] (deadAV x.dead) none := by
  induction x using Nd.ind with | _ x ih
  refine ACall.wpl (C := cx) T.func_10 (by kernel_rfl) rfl (by rfl) (fun hL => ?_)
  have hlen := Nd.lens (x := x) (t := 0) hL (by simp)
  clear hL
  simp [f10]
  refine loopK [1, 2] (fun (p : Nat × Bool) _ => p.1 ≤ x.kids.length ∧ Nd.deadL (x.kind == 5) (x.kids.drop p.1) (!p.2) = x.dead) (fun p => [(5, .int .i64 (p.1 : Nat)), (4, .bool p.2)]) (fun _ => [x.cells, [.int .i64 0, .str .empty, .str .empty, .int .i64 0, .int .i64 0, .int .i64 0, .int .i64 0, .int .i64 0, .sl 1 []]]) (fun _ => []) (fun p => x.kids.length - p.1) (0, false) ⟨by simp, by simp [Nd.dead_eq]⟩ (by simp) [] rfl (by simp) ?_
  rintro ⟨i, ended⟩ nx g ⟨hi, hd⟩ - -
  dsimp only at hi hd
  simp
  refine split2_i (fun h3 => ?_) (fun h3 => ?_) <;> simp [h3]
  · simp at h3
    rw [Nd.deadL_drop h3] at hd
    refine split2_i (fun h4 => ?_) (fun h4 => ?_) <;> simp [h4]
    · refine split2_i (fun h5 => ?_) (fun h5 => ?_) <;> simp [h5, h3]
      · clear ih
        simp [h4, h5] at hd
        simp [← hd, deadAV, pu]
      · refine callP_i (ih _ (List.getElem_mem _)) ?_
        cases hdd : x.kids[i].dead with
        | some d =>
          clear ih
          simp [h4, h5, hdd] at hd
          simp [deadAV, ← hd, pu]
        | none =>
          simp [deadAV, h3]
          refine callP_i (refEnds_ok _) ?_
          simp [h4, h5, hdd] at hd
          simp [h5]
          exact againK_i (i + 1, !x.kids[i].ends) _ ⟨h3, by simpa using hd⟩ (by dsimp only; omega) (by simp [wrap64_i h3 hlen]) rfl (by simp)
    · simp [h3]
      refine callP_i (ih _ (List.getElem_mem _)) ?_
      cases hdd : x.kids[i].dead with
      | some d =>
        clear ih
        simp [h4, hdd] at hd
        simp [deadAV, ← hd, pu]
      | none =>
        simp [deadAV, h3]
        refine callP_i (refEnds_ok _) ?_
        simp [h4, hdd] at hd
        simp
        refine split2_i (fun h5 => ?_) (fun h5 => ?_) <;> simp [h5]
        · exact againK_i (i + 1, true) _ ⟨h3, by simp [h5] at hd; simpa using hd⟩ (by dsimp only; omega) (by simp [wrap64_i h3 hlen]) rfl (by simp)
        · exact againK_i (i + 1, !x.kids[i].ends) _ ⟨h3, by simp [h5] at hd; simpa using hd⟩ (by dsimp only; omega) (by simp [wrap64_i h3 hlen]) rfl (by simp)
  · simp at h3
    have : i = x.kids.length := by omega
    subst this
    clear ih
    simp [Nd.deadL] at hd
    simp [← hd, deadAV, pu]
theorem dead_ok (x : Nd) : ACall cx 9 [.agg x.cells] (deadAV x.dead) none := by
  induction x using Nd.ind with | _ x ih
  refine ACall.wpc (C := cx) T.func_9 (by kernel_rfl) rfl (by rfl) ?_
  simp [f9]
  refine callP_i (steps_ok _) ?_
  simp
  have hz : zeroNd [.int .i64 0, .str .empty, .str .empty, .int .i64 0, .int .i64 0, .int .i64 0, .int .i64 0, .int .i64 0, .sl 1 []] := ⟨rfl, rfl⟩
  have hz0 : zeroNd (default : Nd).cells := ⟨by simp, by simp⟩
  refine range_seq (stepVs x.kids) (fun i c lv nx => ∃ fc, c = [x.cells, [.int .i64 0, .str .empty, .str .empty, .int .i64 0, .int .i64 0, .int .i64 0, .int .i64 0, .int .i64 0, .sl 1 []], fc, [.bool false]] ∧ lv = [] ∧ zeroNd fc ∧ Nd.deadL (x.kind == 5) (x.kids.drop i) (Nd.endsAll (x.kids.take i)) = x.dead)
    (by simp) (by simp) (steps_seq _) (stepVs_all _) (by simp) ⟨_, rfl, rfl, hz, by simp [Nd.endsAll, Nd.dead_eq]⟩ ?_ ?_
  · rintro l lp1 lp2 i hi c rest lv nx - ⟨fc, rfl, rfl, ⟨hf1, hf2⟩, he⟩ -
    have hi' : i < x.kids.length := by simpa using hi
    have hf3 : fc.drop 9 = [] := List.drop_eq_nil_of_le (by omega)
    rw [Nd.deadL_drop hi'] at he
    rw [stepVs_get]
    simp
    refine split2_i (fun h3 => ?_) (fun h3 => ?_) <;> simp [h3]
    refine split2_i (fun h4 => ?_) (fun h4 => ?_) <;> simp [h4]
    rotate_left
    · simp [hf1, hf3]
      refine rOut_i [x.cells, [.int .i64 0, .str .empty, .str .empty, .int .i64 0, .int .i64 0, .int .i64 0, .int .i64 0, .int .i64 0, .sl 1 []], x.kids[i].cells, [.bool true]] _ rfl rfl (fun g => ?_)
      simp [h3, h4] at he
      simp
      refine ⟨by kernel_rfl, ?_⟩
      simp [← he, deadAV, pu]
    all_goals
      refine callP_i (ih _ (List.getElem_mem _)) ?_
      cases hdd : x.kids[i].dead with
      | some d =>
        simp [deadAV, hf1, hf3]
        refine rOut_i [x.cells, [.int .i64 0, .str .empty, .str .empty, .int .i64 0, .int .i64 0, .int .i64 0, .int .i64 0, .int .i64 0, .sl 1 []], d.cells, [.bool true]] _ rfl rfl (fun g => ?_)
        simp [h3, hdd] at he
        try simp [h4] at he
        simp
        refine ⟨by kernel_rfl, ?_⟩
        simp [← he, deadAV, pu]
      | none =>
        simp [deadAV, hf1, hf3]
        simp [h3, hdd] at he
        try simp [h4] at he
        exact rNext_i [x.cells, [.int .i64 0, .str .empty, .str .empty, .int .i64 0, .int .i64 0, .int .i64 0, .int .i64 0, .int .i64 0, .sl 1 []], (default : Nd).cells, [.bool false]] _ [] rfl rfl rfl ⟨_, rfl, rfl, hz0, by simp [Nd.endsAll_take hi', *]⟩
  · rintro c rest lv nx - ⟨fc, rfl, rfl, ⟨hf1, hf2⟩, he⟩
    simp [Nd.deadL] at he
    simp [hf1]
    refine ⟨by kernel_rfl, ?_⟩
    have hf4 : ∀ s, List.map (frz1 s ∘ er1) fc = (default : Nd).cells := fun s => by rw [← List.map_map, hf2]; simp
    simp [← he, deadAV, pu, hf2, hf4, List.take_of_length_le (Nat.le_of_eq hf1)]
end Go.Proofs.AL
namespace Go.Proofs.AL
open Go Go.RowKit Go.Proofs.Try
set_option maxRecDepth 100000
def void : ByteArray := ⟨#[118, 111, 105, 100]⟩
def Nd.meth (x : Nd) : Option (Int × Int) :=
  if x.kids.length = 0 then none else match (x.kids.getD (x.kids.length - 1) default).dead with
    | some d => some (191, d.from_)
    | none => if x.type ≠ void ∧ (x.kids.getD (x.kids.length - 1) default).ends = true then some (190, x.at_) else none
def methAV : Option (Int × Int) → AV
  | some (c, a) => .tup [.int .i64 c, .int .i64 a]
  | none => .tup [.int .i64 0, .int .i64 0]
theorem method_ok (x : Nd) : ACall cx 30 [.agg x.cells] (methAV x.meth) none := by
  refine ACall.wpl (C := cx) T.func_30 (by kernel_rfl) rfl (by rfl) (fun hL => ?_)
  have hlen := Nd.lens (x := x) (t := 0) hL (by simp)
  clear hL
  simp [f30]
  refine split2_i (fun h1 => ?_) (fun h1 => ?_) <;> simp [h1]
  · simp at h1; simp [Nd.meth, h1, methAV, pu]
  have h2 : 0 < x.kids.length := by simp at h1; exact List.length_pos_iff.2 (by simpa using h1)
  have h3 : IntKind.i64.wrap ((x.kids.length : Int) - 1) = ((x.kids.length - 1 : Nat) : Int) := by rw [wrap64_in (by omega) (by omega)]; omega
  have h4 : x.kids.length - 1 < x.kids.length := by omega
  have h5 : ¬ x.kids.length = 0 := by omega
  simp [h3, h4]
  refine callP_i (dead_ok _) ?_
  cases hd : (x.kids[x.kids.length - 1]).dead with
  | some d =>
    simp [deadAV]
    refine ⟨by kernel_rfl, ?_⟩
    simp [Nd.meth, h4, h5, hd, methAV, pu]
  | none =>
    simp [deadAV]
    refine split2_i (fun h6 => ?_) (fun h6 => ?_) <;> simp [h6]
    · simp at h6
      simp [Nd.meth, h4, h5, hd, methAV, pu, void, h6]
    · refine callP_i (ends_ok _) ?_
      simp at h6
      simp
      refine split2_i (fun h7 => ?_) (fun h7 => ?_) <;> simp [h7]
      · refine ⟨by kernel_rfl, ?_⟩
        simp [Nd.meth, h4, h5, hd, methAV, pu, void, h6, h7]
      · simp [Nd.meth, h4, h5, hd, methAV, pu, void, h6, h7]
/-- Files, as the program has them. -/
def fileRows (fs : List (List Nd)) : List (List AV) := fs.map fun l => [.sl 0 (Nd.rows l)]
@[simp] theorem fileRows_length (fs : List (List Nd)) : (fileRows fs).length = fs.length := by simp [fileRows]
@[simp] theorem fileRows_all (fs : List (List Nd)) : (∀ el ∈ fileRows fs, el.length = 1) = True := by simp [fileRows]
@[simp high] theorem fileRows_idx {tk : Nat} {fs : List (List Nd)} {k : IntKind} {n : Int} : idxAddr prog 32 (.sl tk (fileRows fs)) (.int k n) = if 0 ≤ n ∧ n < fs.length then some (.cptr [.sl 0 (Nd.rows (fs.getD n.toNat []))]) else none := by
  simp only [idxAddr, T.elT_32, T.szOf_22, fileRows_length, fileRows_all, if_true]
  by_cases h : 0 ≤ n ∧ n < fs.length
  · rw [if_pos h, if_pos h]
    have : n.toNat < fs.length := by omega
    simp [fileRows, this]
  · rw [if_neg h, if_neg h]
@[simp] theorem fileRows_pu (fs : List (List Nd)) : puLL (fileRows fs) = true := by
  induction fs with
  | nil => rfl
  | cons l fs ih =>
    show puLL ([.sl 0 (Nd.rows l)] :: fileRows fs) = true
    simp [puLL, puL, pu, ih]
def chkK (f : Int) (c : Nd) : List Nd → Option (Int × Int × Int)
  | [] => none
  | k :: l => (if c.kind = 1 ∧ k.kind = 3 then k.meth.map fun q => (q.1, f, q.2) else none).or (chkK f c l)
def chkC (f : Int) : List Nd → Option (Int × Int × Int)
  | [] => none
  | c :: l => (chkK f c c.kids).or (chkC f l)
def chkF : List (List Nd) → Int → Option (Int × Int × Int)
  | [], _ => none
  | l :: fs, f => (chkC f l).or (chkF fs (f + 1))
theorem chkK_drop {f : Int} {c : Nd} {l : List Nd} {i : Nat} (h : i < l.length) : chkK f c (l.drop i) = (if c.kind = 1 ∧ l[i].kind = 3 then l[i].meth.map fun q => (q.1, f, q.2) else none).or (chkK f c (l.drop (i + 1))) := by
  rw [List.drop_eq_getElem_cons h]; rfl
theorem chkC_drop {f : Int} {l : List Nd} {i : Nat} (h : i < l.length) : chkC f (l.drop i) = (chkK f l[i] l[i].kids).or (chkC f (l.drop (i + 1))) := by
  rw [List.drop_eq_getElem_cons h]; rfl
theorem chkF_drop {fs : List (List Nd)} {i : Nat} {f : Int} (h : i < fs.length) : chkF (fs.drop i) f = (chkC f fs[i]).or (chkF (fs.drop (i + 1)) (f + 1)) := by
  rw [List.drop_eq_getElem_cons h]; rfl
def chkAV : Option (Int × Int × Int) → AV
  | some (c, f, a) => .agg [.int .i64 c, .int .i64 f, .int .i64 a]
  | none => .agg [.int .i64 0, .int .i64 0, .int .i64 0]
theorem Nd.meth_code {x : Nd} {c a : Int} (h : x.meth = some (c, a)) : (c != 0) = true := by
  unfold Nd.meth at h
  split at h
  · cases h
  · split at h
    · cases h; rfl
    · split at h <;> cases h; rfl
theorem fl_len {N nx t tk : Nat} {m : List (Nat × AV)} {ob : Obs} {lv : Lvs} {lp : Lps} {fs : List (List Nd)} (h : Lens (S N m ob lv nx lp)) (ht : look m t = some (.sl tk (fileRows fs))) : (fs.length : Int) ≤ 9223372036854775807 := by
  simpa using h.tm t tk (fileRows fs) ht
theorem nd_len {N nx t tk : Nat} {m : List (Nat × AV)} {ob : Obs} {lv : Lvs} {lp : Lps} {fs : List Nd} (h : Lens (S N m ob lv nx lp)) (ht : look m t = some (.sl tk (Nd.rows fs))) : (fs.length : Int) ≤ 9223372036854775807 := by
  simpa using h.tm t tk (Nd.rows fs) ht
theorem fl_len1 {N nx t tk i : Nat} {m : List (Nat × AV)} {ob : Obs} {lv : Lvs} {lp : Lps} {fs : List (List Nd)} (h : Lens (S N m ob lv nx lp)) (ht : look m t = some (.sl tk (fileRows fs))) (hi : i < fs.length) : (fs[i].length : Int) ≤ 9223372036854775807 := by
  simpa using h.sub t 0 _ (Nd.rows fs[i]) ht (.sl (el := [.sl 0 (Nd.rows fs[i])]) (by simp only [fileRows, List.mem_map]; exact ⟨fs[i], List.getElem_mem hi, rfl⟩) (by simp) (.self _))
theorem fl_len2 {N nx t tk i j : Nat} {m : List (Nat × AV)} {ob : Obs} {lv : Lvs} {lp : Lps} {fs : List (List Nd)} (h : Lens (S N m ob lv nx lp)) (ht : look m t = some (.sl tk (fileRows fs))) (hi : i < fs.length) (hj : j < fs[i].length) : (fs[i][j].kids.length : Int) ≤ 9223372036854775807 := by
  simpa using h.sub t 0 _ (Nd.rows fs[i][j].kids) ht (.sl (el := [.sl 0 (Nd.rows fs[i])]) (by simp only [fileRows, List.mem_map]; exact ⟨fs[i], List.getElem_mem hi, rfl⟩) (List.mem_singleton.2 rfl) (Nd.sub_row (List.getElem_mem hj) (Nd.sub_kids _) (by simp)))
theorem fl_len3 {N nx t tk i j k : Nat} {m : List (Nat × AV)} {ob : Obs} {lv : Lvs} {lp : Lps} {fs : List (List Nd)} (h : Lens (S N m ob lv nx lp)) (ht : look m t = some (.sl tk (fileRows fs))) (hi : i < fs.length) (hj : j < fs[i].length) (hk : k < fs[i][j].kids.length) : (fs[i][j].kids[k].kids.length : Int) ≤ 9223372036854775807 := by
  simpa using h.sub t 0 _ (Nd.rows fs[i][j].kids[k].kids) ht (.sl (el := [.sl 0 (Nd.rows fs[i])]) (by simp only [fileRows, List.mem_map]; exact ⟨fs[i], List.getElem_mem hi, rfl⟩) (List.mem_singleton.2 rfl) (Nd.sub_row (List.getElem_mem hj) (.agg (c := .sl 0 (Nd.rows fs[i][j].kids)) (Nd.mem_kids _) (Nd.sub_row (List.getElem_mem hk) (Nd.sub_kids _) (by simp))) (by simp)))
theorem check_ok (fs : List (List Nd)) : ACall cx 17 [.sl 0 (fileRows fs)] (chkAV (chkF fs 0)) none := by
  refine ACall.wpl (C := cx) T.func_17 (by kernel_rfl) rfl (by rfl) (fun hL => ?_)
  have hlen := fl_len (fs := fs) (t := 0) (tk := 0) hL (by simp)
  clear hL
  simp [f17]
  refine loopK [2, 11, 12] (fun i _ => i ≤ fs.length ∧ chkF (fs.drop i) i = chkF fs 0) (fun i => [(13, .int .i64 (i : Nat))]) (fun _ => [[.int .i64 0, .int .i64 0, .int .i64 0]]) (fun _ => []) (fun i => fs.length - i) 0 ⟨by simp, by simp⟩ (by simp) [] rfl (by simp) ?_
  rintro i nx g ⟨hi, hd⟩ - -
  simp
  refine split2_i (fun h1 => ?_) (fun h1 => ?_) <;> simp [h1]
  rotate_left
  · simp at h1
    have : i = fs.length := by omega
    subst this
    simp [chkF] at hd
    simp [← hd, chkAV, pu]
  simp at h1
  rw [chkF_drop h1] at hd
  simp [h1]
  refine loopC_lens (fun hL => ?_)
  have hlen1 := nd_len (fs := fs[i]) (t := 18) (tk := 0) hL (by simp)
  clear hL
  refine loopK [2, 11, 12, 13, 3, 18, 19] (fun j _ => j ≤ fs[i].length ∧ (chkC i (fs[i].drop j)).or (chkF (fs.drop (i + 1)) (i + 1)) = chkF fs 0) (fun j => [(20, .int .i64 (j : Nat))]) (fun _ => [[.int .i64 0, .int .i64 0, .int .i64 0]]) (fun _ => []) (fun j => fs[i].length - j) 0 ⟨by simp, by simpa using hd⟩ (by simp) g rfl (by simp) ?_
  clear hd g
  rintro j nx g ⟨hj, hd⟩ - -
  simp
  refine split2_i (fun h2 => ?_) (fun h2 => ?_) <;> simp [h2]
  rotate_left
  · simp at h2
    have : j = fs[i].length := by omega
    subst this
    simp [chkC] at hd
    exact againK_i (i + 1) _ ⟨h1, by simpa using hd⟩ (by omega) (by simp [wrap64_i h1 hlen]) rfl (by simp)
  simp at h2
  rw [chkC_drop h2, Option.or_assoc] at hd
  simp [h2]
  refine loopC_lens (fun hL => ?_)
  have hlen2 := nd_len (fs := fs[i][j].kids) (t := 25) (tk := 0) hL (by simp)
  clear hL
  refine loopK [2, 11, 12, 13, 3, 18, 19, 20, 6, 25, 26] (fun k _ => k ≤ fs[i][j].kids.length ∧ (chkK i fs[i][j] (fs[i][j].kids.drop k)).or ((chkC i (fs[i].drop (j + 1))).or (chkF (fs.drop (i + 1)) (i + 1))) = chkF fs 0) (fun k => [(27, .int .i64 (k : Nat))]) (fun _ => [.int .i64 0, .int .i64 0, .int .i64 0] :: (g ++ [fs[i][j].cells])) (fun _ => []) (fun k => fs[i][j].kids.length - k) 0 ⟨by simp, by simpa using hd⟩ (by simp) [] (by simp) (by simp) ?_
  clear hd
  rintro k nx g1 ⟨hk, hd⟩ - -
  simp
  refine split2_i (fun h3 => ?_) (fun h3 => ?_) <;> simp [h3]
  rotate_left
  · simp at h3
    have : k = fs[i][j].kids.length := by omega
    subst this
    simp [chkK] at hd
    exact againK_i (j + 1) _ ⟨h2, by simpa using hd⟩ (by omega) (by simp [wrap64_i h2 hlen1]) rfl (by simp)
  simp at h3
  rw [chkK_drop h3, Option.or_assoc] at hd
  simp [h3]
  refine split2_i (fun h4 => ?_) (fun h4 => ?_) <;> simp [h4]
  · have h4' : ¬ fs[i][j].kind = 1 := by simpa using h4
    simp [h4'] at hd
    exact againK_i (k + 1) (g1 ++ [fs[i][j].kids[k].cells]) ⟨h3, by simpa using hd⟩ (by omega) (by simp [wrap64_i h3 hlen2]) (by simp) (by simp)
  refine split2_i (fun h5 => ?_) (fun h5 => ?_) <;> simp [h5]
  · have h5' : ¬ fs[i][j].kids[k].kind = 3 := by simpa using h5
    simp [h5'] at hd
    exact againK_i (k + 1) (g1 ++ [fs[i][j].kids[k].cells]) ⟨h3, by simpa using hd⟩ (by omega) (by simp [wrap64_i h3 hlen2]) (by simp) (by simp)
  have h4' : fs[i][j].kind = 1 := by simpa using h4
  have h5' : fs[i][j].kids[k].kind = 3 := by simpa using h5
  refine callP_i (method_ok _) ?_
  cases hm : fs[i][j].kids[k].meth with
  | none =>
    simp [h4', h5', hm] at hd
    simp [methAV]
    exact againK_i (k + 1) (g1 ++ [fs[i][j].kids[k].cells]) ⟨h3, by simpa using hd⟩ (by omega) (by simp [wrap64_i h3 hlen2]) (by simp) (by simp)
  | some q =>
    obtain ⟨c, a⟩ := q
    have hc := Nd.meth_code hm
    simp [h4', h5', hm] at hd
    simp [methAV, hc]
    simp [← hd, chkAV, pu]
theorem refCheck_ok (fs : List (List Nd)) : ACall cx 18 [.sl 0 (fileRows fs)] (chkAV (chkF fs 0)) none := by
  refine ACall.wpl (C := cx) T.func_18 (by kernel_rfl) rfl (by rfl) (fun hL => ?_)
  have hlen := fl_len (fs := fs) (t := 0) (tk := 0) hL (by simp)
  clear hL
  simp [f18]
  refine loopK [2, 0] (fun i _ => i ≤ fs.length ∧ chkF (fs.drop i) i = chkF fs 0) (fun i => [(3, .int .i64 (i : Nat))]) (fun _ => [[.int .i64 0, .int .i64 0, .int .i64 0]]) (fun _ => []) (fun i => fs.length - i) 0 ⟨by simp, by simp⟩ (by simp) [] rfl (by simp) ?_
  rintro i nx g ⟨hi, hd⟩ - -
  simp
  refine split2_i (fun h1 => ?_) (fun h1 => ?_) <;> simp [h1]
  rotate_left
  · simp at h1
    have : i = fs.length := by omega
    subst this
    simp [chkF] at hd
    simp [← hd, chkAV, pu]
  simp at h1
  rw [chkF_drop h1] at hd
  refine loopK [2, 0, 3] (fun j _ => j ≤ fs[i].length ∧ (chkC i (fs[i].drop j)).or (chkF (fs.drop (i + 1)) (i + 1)) = chkF fs 0) (fun j => [(4, .int .i64 (j : Nat))]) (fun _ => [[.int .i64 0, .int .i64 0, .int .i64 0]]) (fun _ => []) (fun j => fs[i].length - j) 0 ⟨by simp, by simpa using hd⟩ (by simp) g rfl (by simp) ?_
  clear hd g
  rintro j nx g ⟨hj, hd⟩ - hL
  have hlen1 := fl_len1 (t := 0) (tk := 0) hL (by simp) h1
  have hlen2 := fun hj => fl_len2 (t := 0) (tk := 0) (j := j) hL (by simp) h1 hj
  have hlen3 := fun {k : Nat} hj hk => fl_len3 (t := 0) (tk := 0) (j := j) (k := k) hL (by simp) h1 hj hk
  clear hL
  simp [h1]
  refine split2_i (fun h2 => ?_) (fun h2 => ?_) <;> simp [h2]
  rotate_left
  · simp at h2
    have : j = fs[i].length := by omega
    subst this
    simp [chkC] at hd
    exact againK_i (i + 1) _ ⟨h1, by simpa using hd⟩ (by omega) (by simp [wrap64_i h1 hlen]) rfl (by simp)
  simp at h2
  have hlen2 := hlen2 h2
  rw [chkC_drop h2, Option.or_assoc] at hd
  simp [h1, h2]
  refine loopK [2, 0, 3, 4, 5] (fun k _ => k ≤ fs[i][j].kids.length ∧ (chkK i fs[i][j] (fs[i][j].kids.drop k)).or ((chkC i (fs[i].drop (j + 1))).or (chkF (fs.drop (i + 1)) (i + 1))) = chkF fs 0) (fun k => [(6, .int .i64 (k : Nat))]) (fun _ => [[.int .i64 0, .int .i64 0, .int .i64 0]]) (fun _ => []) (fun k => fs[i][j].kids.length - k) 0 ⟨by simp, by simpa using hd⟩ (by simp) g rfl (by simp) ?_
  clear hd
  rintro k nx g ⟨hk, hd⟩ - -
  simp
  refine split2_i (fun h3 => ?_) (fun h3 => ?_) <;> simp [h3]
  rotate_left
  · simp at h3
    have : k = fs[i][j].kids.length := by omega
    subst this
    simp [chkK] at hd
    exact againK_i (j + 1) _ ⟨h2, by simpa using hd⟩ (by omega) (by simp [wrap64_i h2 hlen1]) rfl (by simp)
  simp at h3
  rw [chkK_drop h3, Option.or_assoc] at hd
  simp [h1, h2, h3]
  refine split2_i (fun h4 => ?_) (fun h4 => ?_) <;> simp [h4]
  · have h4' : ¬ fs[i][j].kind = 1 := by simpa using h4
    simp [h4'] at hd
    exact againK_i (k + 1) _ ⟨h3, by simpa using hd⟩ (by omega) (by simp [wrap64_i h3 hlen2]) rfl (by simp)
  simp [h3]
  refine split2_i (fun h5 => ?_) (fun h5 => ?_) <;> simp [h5]
  · have h5' : ¬ fs[i][j].kids[k].kind = 3 := by simpa using h5
    simp [h5'] at hd
    exact againK_i (k + 1) _ ⟨h3, by simpa using hd⟩ (by omega) (by simp [wrap64_i h3 hlen2]) rfl (by simp)
  have h4' : fs[i][j].kind = 1 := by simpa using h4
  have h5' : fs[i][j].kids[k].kind = 3 := by simpa using h5
  simp [h4', h5'] at hd
  simp [h3]
  refine split2_i (fun h6 => ?_) (fun h6 => ?_) <;> simp [h6]
  · have hm : fs[i][j].kids[k].meth = none := by simp at h6; simp [Nd.meth, h6]
    simp [hm] at hd
    exact againK_i (k + 1) _ ⟨h3, by simpa using hd⟩ (by omega) (by simp [wrap64_i h3 hlen2]) rfl (by simp)
  have hlen3 : (fs[i][j].kids[k].kids.length : Int) ≤ 9223372036854775807 := hlen3 h2 h3
  have e2 : 0 < fs[i][j].kids[k].kids.length := by simp at h6; exact List.length_pos_iff.2 (by simpa using h6)
  have e3 : IntKind.i64.wrap ((fs[i][j].kids[k].kids.length : Int) - 1) = ((fs[i][j].kids[k].kids.length - 1 : Nat) : Int) := by rw [wrap64_in (by omega) (by omega)]; omega
  have e4 : fs[i][j].kids[k].kids.length - 1 < fs[i][j].kids[k].kids.length := by omega
  have e5 : ¬ fs[i][j].kids[k].kids.length = 0 := by omega
  simp [h3, e3, e4]
  refine ⟨by kernel_rfl, ?_⟩
  refine callP_i (refDead_ok _) ?_
  cases hdd : (fs[i][j].kids[k].kids[fs[i][j].kids[k].kids.length - 1]).dead with
  | some d =>
    have hm : fs[i][j].kids[k].meth = some (191, d.from_) := by simp [Nd.meth, e4, e5, hdd]
    simp [hm] at hd
    simp [deadAV, ← hd, chkAV, pu]
  | none =>
    simp [deadAV]
    refine callP_i (refEnds_ok _) ?_
    simp
    refine split2_i (fun h7 => ?_) (fun h7 => ?_) <;> simp [h7, h3]
    · refine split2_i (fun h8 => ?_) (fun h8 => ?_) <;> simp [h8, h1, h2, h3]
      · have hm : fs[i][j].kids[k].meth = none := by simp at h8; simp [Nd.meth, e4, e5, hdd, h7, void, h8]
        simp [hm] at hd
        exact againK_i (k + 1) _ ⟨h3, by simpa using hd⟩ (by omega) (by simp [wrap64_i h3 hlen2]) rfl (by simp)
      · have hm : fs[i][j].kids[k].meth = some (190, fs[i][j].kids[k].at_) := by simp at h8; simp [Nd.meth, e4, e5, hdd, h7, void, h8]
        simp [hm] at hd
        simp [← hd, chkAV, pu]
    · have hm : fs[i][j].kids[k].meth = none := by simp [Nd.meth, e4, e5, hdd, h7]
      simp [hm] at hd
      exact againK_i (k + 1) _ ⟨h3, by simpa using hd⟩ (by omega) (by simp [wrap64_i h3 hlen2]) rfl (by simp)
end Go.Proofs.AL
namespace Go.Proofs.AL
open Go Go.RowKit Go.Proofs.Try
set_option maxRecDepth 100000
def Nd.few (x : Nd) : Bool := !x.deep 80 && decide (x.count ≤ 400)
theorem few_ok (x : Nd) (hb : x.count ≤ 10000000) : ACall cx 8 [.agg x.cells] (.bool x.few) none := by
  refine ACall.wpc (C := cx) T.func_8 (by kernel_rfl) rfl (by rfl) ?_
  simp [f8]
  refine callP_i (deep_ok _ _) ?_
  simp
  refine split2_i (fun h1 => ?_) (fun h1 => ?_) <;> simp [h1]
  · simp [Nd.few, h1]
  · refine callP_i (count_ok _ hb) ?_
    simp [Nd.few, h1]
    omega
def Awake : Prop := ACall cx 7 [] (.bool true) none
set_option maxHeartbeats 4000000 in
theorem tells_ok (hw : Awake) (x : Nd) (hb : x.count ≤ 10000000) : ACall cx 3 [.agg x.cells] (.bool true) none := by
  refine ACall.wpc (C := cx) T.func_3 (by kernel_rfl) rfl (by rfl) ?_
  simp [f3]
  refine callP_i hw ?_
  simp
  refine callP_i (few_ok x hb) ?_
  simp
  refine split2_i (fun h1 => ?_) (fun h1 => ?_) <;> simp [h1]
  refine callP_i (dead_ok _) ?_
  simp [deadAV]
  refine callP_i (refDead_ok _) ?_
  simp [deadAV]
  refine callP_i (ends_ok _) ?_
  simp
  refine callP_i (refEnds_ok _) ?_
  simp
  refine callP_i (exact_ok _ _) ?_
  simp
  refine callP_i (reached_ok _) ?_
  simp
  refine callP_i (refReached_ok _) ?_
  simp [Nd.reached2_same]
  kernel_rfl
end Go.Proofs.AL
namespace Go.Proofs.AL
open Go Go.RowKit Go.Proofs.Try
set_option maxRecDepth 100000
def awB : Nd := .mk 5 ⟨#[]⟩ ⟨#[]⟩ 0 0 13 (-1) (-1) [.mk 11 ⟨#[]⟩ ⟨#[]⟩ 0 1 8 (-1) (-1) [], .mk 8 ⟨#[]⟩ ⟨#[]⟩ 0 8 12 (-1) (-1) [.mk 19 ⟨#[109]⟩ ⟨#[]⟩ 0 8 11 8 (-1) []]]
def awX : Nd := .mk 8 ⟨#[]⟩ ⟨#[]⟩ 0 8 12 (-1) (-1) [.mk 19 ⟨#[109]⟩ ⟨#[]⟩ 0 8 11 8 (-1) []]
def awN : Nd := .mk 9 ⟨#[]⟩ ⟨#[]⟩ 0 0 32 (-1) (-1) [.mk 17 ⟨#[97]⟩ ⟨#[]⟩ 0 3 4 3 (-1) [], .mk 11 ⟨#[]⟩ ⟨#[]⟩ 0 5 14 (-1) (-1) [.mk 13 ⟨#[]⟩ ⟨#[]⟩ 1 12 13 (-1) (-1) []], .mk 10 ⟨#[]⟩ ⟨#[]⟩ 0 19 32 (-1) (-1) [.mk 14 ⟨#[]⟩ ⟨#[]⟩ 1 25 29 (-1) (-1) [], .mk 5 ⟨#[]⟩ ⟨#[]⟩ 0 30 32 (-1) (-1) []]]
def awL : List Nd := [.mk 1 ⟨#[65]⟩ ⟨#[]⟩ 0 0 18 6 (-1) [.mk 3 ⟨#[109]⟩ ⟨#[105, 110, 116]⟩ 0 8 17 12 8 [.mk 5 ⟨#[]⟩ ⟨#[]⟩ 0 15 17 (-1) (-1) []]]]
theorem one1 : ACall cx 19 [.str ⟨#[123, 114, 101, 116, 117, 114, 110, 59, 109, 40, 41, 59, 125]⟩, .int .i64 2] (.tup [.agg awB.cells, .agg [.int .i64 0, .int .i64 0, .int .i64 0]]) none :=
  callA_ok (C := cx) (k := 200) (q := (_, none)) (by kernel_rfl)
theorem one2 : ACall cx 19 [.str ⟨#[105, 102, 40, 97, 41, 114, 101, 116, 117, 114, 110, 32, 49, 59, 101, 108, 115, 101, 32, 119, 104, 105, 108, 101, 40, 116, 114, 117, 101, 41, 123, 125]⟩, .int .i64 2] (.tup [.agg awN.cells, .agg [.int .i64 0, .int .i64 0, .int .i64 0]]) none :=
  callA_ok (C := cx) (k := 200) (q := (_, none)) (by kernel_rfl)
theorem file1 : ACall cx 16 [.str ⟨#[99, 108, 97, 115, 115, 32, 65, 123, 105, 110, 116, 32, 109, 40, 41, 123, 125, 125]⟩] (.tup [.sl 0 (Nd.rows awL), .agg [.int .i64 0, .int .i64 0, .int .i64 0]]) (some (0, 24)) :=
  callA_ok (C := cx) (k := 200) (q := (_, some (0, 24))) (by kernel_rfl)
theorem fileRows_one (l : List Nd) : [[AV.sl 0 (Nd.rows l)]] = fileRows [l] := rfl
set_option maxHeartbeats 4000000 in
theorem awake_ok : Awake := by
  have d1 : awB.dead = some awX := by kernel_rfl
  have d2 : awN.ends = false := by kernel_rfl
  have d3 : awX.ends = true := by kernel_rfl
  have d4 : awB.reached = 2 := by kernel_rfl
  have d5 : chkF [awL] 0 = some (190, 0, 12) := by kernel_rfl
  have d6 : awX.kind = 8 := by kernel_rfl
  refine ACall.wpc (C := cx) T.func_7 (by kernel_rfl) rfl (by rfl) ?_
  simp [f7]
  refine callP_i one1 ?_
  simp
  refine callP_i one2 ?_
  simp
  refine callP_i file1 ?_
  simp
  refine callP_i (dead_ok _) ?_
  simp [d1, deadAV]
  rw [fileRows_one]
  refine callP_i (check_ok _) ?_
  simp [d5, chkAV, d6]
  refine callP_i (ends_ok _) ?_
  simp [d2]
  refine callP_i (ends_ok _) ?_
  simp [d3]
  refine callP_i (reached_ok _) ?_
  simp [d4]
end Go.Proofs.AL
namespace Go.Proofs.AL
open Go Go.RowKit Go.Proofs.Try
set_option maxRecDepth 100000
theorem Nd.deadL_snoc (x : Nd) : ∀ (l : List Nd) (up : Bool), Nd.deadL true (l ++ [x]) up = match Nd.deadL true l up with
    | some d => some d
    | none => if up && Nd.endsAll l then x.dead else some x
  | [], up => by
    simp only [List.nil_append, Nd.deadL, Nd.endsAll, Bool.and_true]
    cases up with
    | true => cases x.dead <;> simp
    | false => simp
  | z :: l, up => by
    simp only [List.cons_append, Nd.deadL, Nd.endsAll, Nd.deadL_snoc x l]
    cases up with
    | false => simp
    | true =>
      cases z.dead with
      | some d => simp
      | none => simp
theorem Nd.ends_block (l : List Nd) (t y : ByteArray) (n f o a ta : Int) : (Nd.mk 5 t y n f o a ta l).ends = Nd.endsAll l := by
  simp [Nd.ends_eq, Nd.forever]
set_option maxHeartbeats 4000000 in
theorem blocks_ok (hw : Awake) (l : List Nd) (x : Nd) (hb : Nd.countL l + x.count + 2 ≤ 10000000) : ACall cx 5 [.sl 0 (Nd.rows l), .agg x.cells] (.bool true) none := by
  refine ACall.wpl (C := cx) T.func_5 (by kernel_rfl) rfl (by rfl) (fun hL => ?_)
  have hlen : (l.length : Int) ≤ 9223372036854775807 := by simpa using hL.tm 0 0 (Nd.rows l) (by simp)
  clear hL
  have hln : l.length ≤ Nd.countL l := by
    clear hb hlen
    induction l with
    | nil => simp
    | cons z l ih => have := Nd.count_eq z; simp [Nd.countL]; omega
  simp [f5]
  refine callP_i hw ?_
  simp
  have ea : Nd.count (Nd.mk 5 .empty .empty 0 0 0 0 0 l) = Nd.countL l + 1 := by simp [Nd.count_eq]
  refine callP_i (few_ok (.mk 5 .empty .empty 0 0 0 0 0 l) (by omega)) ?_
  simp
  refine callP_i (few_ok x (by omega)) ?_
  simp
  refine split2_i (fun h1 => ?_) (fun h1 => ?_) <;> simp [h1]
  refine split2_i (fun h2 => ?_) (fun h2 => ?_) <;> simp [h2]
  refine loopK [0, 3, 6] (fun i _ => i ≤ l.length) (fun i => [(10, .int .i64 (i : Nat)), (9, .bool (Nd.endsAll (l.take i)))]) (fun _ => [x.cells, (Nd.mk 5 .empty .empty 0 0 0 0 0 l).cells]) (fun _ => []) (fun i => l.length - i) 0 (by simp) (by simp [Nd.endsAll]) [] rfl (by simp) ?_
  rintro i nx g hi hnx -
  simp
  refine split2_i (fun h3 => ?_) (fun h3 => ?_) <;> simp [h3]
  · simp at h3
    refine split2_i (fun h4 => ?_) (fun h4 => ?_) <;> simp [h3, h4]
    · refine callP_i (ends_ok _) ?_
      simp
      exact againK_i (i + 1) g h3 (by omega) (by simp [wrap64_i h3 hlen, Nd.endsAll_take h3, h4]) (by simp) (by simp)
    · exact againK_i (i + 1) g h3 (by omega) (by simp [wrap64_i h3 hlen, Nd.endsAll_take h3, h4]) (by simp) (by simp)
  simp at h3
  have : i = l.length := by omega
  subst this
  simp
  refine callP_i (dead_ok _) ?_
  simp [deadAV]
  have b1 : l.length * 104 ≤ 140737488355328 := b104 (by omega)
  have b2 : (l.length + 1) * 104 ≤ 140737488355328 := b104 (by omega)
  have n0 : ¬ nx = 0 := by clear b1 b2; omega
  have n2 : ¬ nx = 2 := by clear b1 b2; omega
  have e1 : (Nd.mk 5 .empty .empty 0 0 0 0 0 l).dead = Nd.deadL true l true := by simp [Nd.dead_eq]
  have e2 : (Nd.mk 5 .empty .empty 0 0 0 0 0 (l ++ [x])).dead = Nd.deadL true (l ++ [x]) true := by simp [Nd.dead_eq]
  have e3 := Nd.deadL_snoc x l true
  have fin : ∀ (m : List (Nat × AV)) (ob : Obs) (lv : Lvs) (nx : Nat), True := fun _ _ _ _ => trivial
  by_cases hl0 : l = []
  · subst hl0
    simp only [List.nil_append] at e2 e3
    simp
    refine ⟨by kernel_rfl, ?_⟩
    refine callP_i (dead_ok _) ?_
    simp [deadAV]
    refine callP_i (ends_ok _) ?_
    simp [Nd.ends_block, Nd.endsAll]
    rw [e1, e2, e3]
    simp [Nd.deadL, Nd.endsAll]
    refine callP_i (dead_ok _) ?_
    simp [deadAV]
  simp [hl0, b1, b2, n0, n2]
  refine ⟨by kernel_rfl, ?_⟩
  refine callP_i (dead_ok _) ?_
  simp [deadAV]
  refine callP_i (ends_ok _) ?_
  simp [Nd.ends_block]
  rw [e1]
  cases hd : Nd.deadL true l true with
  | some d =>
    rw [hd] at e3
    rw [e2, e3]
    simp
    refine callP_i (exact_ok _ _) ?_
    simp
  | none =>
    rw [hd] at e3
    simp only [Bool.true_and] at e3
    rw [e2, e3]
    simp
    refine split2_i (fun h4 => ?_) (fun h4 => ?_) <;> simp [h4]
    · refine callP_i (dead_ok _) ?_
      simp [deadAV]
    · refine callP_i (exact_ok _ _) ?_
      simp
end Go.Proofs.AL
namespace Go.Proofs.AL
open Go Go.RowKit Go.Proofs.Ytknabihpplaheaa
set_option linter.unusedVariables false
set_option linter.unusedSimpArgs false
/-! ## What a law's argument reads as -/
/-- All cells of a block. -/
def mAll (w : World) : Nat → Nat := fun b => match w.heap[b]? with
  | some (.cells c _ _) => c.size
  | _ => 0
theorem mAll_end (w : World) (b : Nat) (h : w.heap.size ≤ b) : mAll w b = 0 := by
  unfold mAll
  rw [Array.getElem?_eq_none h]
theorem mAll_cell {w : World} {b o : Nat} {v : Value} (h : w.cell? ⟨b, o, none⟩ = some v) : o < mAll w b := by
  unfold World.cell? at h
  unfold mAll
  cases hb : w.heap[b]? with
  | none => rw [hb] at h; cases h
  | some ob =>
    rw [hb] at h
    cases ob with
    | cells c T q => exact (Array.getElem?_eq_some_iff.1 h).1
    | _ => cases h
theorem spot_none {w : World} {a : Addr} {v : Value} (h : w.cell? a = some v) : a.spot = none := by
  unfold World.cell? at h
  split at h
  · split at h
    · cases h
    · rename_i hs
      cases hsp : a.spot with
      | none => rfl
      | some _ => rw [hsp] at hs; exact absurd rfl hs
  · cases h
/-- Whatever reads as data of type t is a value with these cells, of a size that the datum tells, and as the reach allows. -/
def ToldAt {α : Type} (P : Program) (t : TypeId) (cells : α → List AV) (sz : α → Nat) (ok : α → Prop) (fuel : Nat) : Prop :=
  ∀ {H : Type} {enc : TypeId × Value → H} {w : World} {held : Bool} {cs : List Value} {z : DataW H × List MemPlace},
    DataW.trod enc P w 0 (fun _ => true) held fuel t cs = some z → (∀ q ∈ DataW.weights P t z.1, q ≤ 140737488351232) → ∃ x, VL (gh1 (mAll w)) w (cells x) cs ∧ ok x ∧ sz x ≤ Rows.uptoBulk z.1
def Told {α : Type} (P : Program) (t : TypeId) (cells : α → List AV) (sz : α → Nat) (ok : α → Prop) : Prop := ∀ fuel, ToldAt P t cells sz ok fuel
theorem mapM_get {α β : Type} {f : α → Option β} : ∀ {l : List α} {xs : List β}, l.mapM f = some xs → xs.length = l.length ∧ ∀ (i : Nat) (a : α), l[i]? = some a → f a = xs[i]? := by
  intro l
  induction l with
  | nil => intro xs h; rw [List.mapM_nil] at h; cases h; exact ⟨rfl, fun i a hi => by simp at hi⟩
  | cons b l ih =>
    intro xs h
    rw [List.mapM_cons] at h
    cases hy : f b with
    | none => rw [hy] at h; cases h
    | some y =>
      rw [hy] at h
      cases hys : l.mapM f with
      | none => rw [hys] at h; cases h
      | some ys =>
        rw [hys] at h
        cases h
        obtain ⟨hl, hg⟩ := ih hys
        refine ⟨by rw [List.length_cons, List.length_cons, hl], fun i a hi => ?_⟩
        cases i with
        | zero => rw [List.getElem?_cons_zero] at hi ⊢; injection hi with hi; subst hi; exact hy
        | succ i => rw [List.getElem?_cons_succ] at hi ⊢; exact hg i a hi
theorem cells_at {w : World} {base : Nat} {a : Addr} {n : Nat} {cs : List Value} (h : w.cells? base a n = some cs) : cs.length = n ∧ ∀ i u, cs[i]? = some u → w.cell? (a.add i) = some u := by
  unfold World.cells? at h
  split at h
  · obtain ⟨hl, hg⟩ := mapM_get h
    rw [List.length_range] at hl
    refine ⟨hl, fun i u hi => ?_⟩
    have hlt : i < n := by
      rcases Nat.lt_or_ge i n with h1 | h1
      · exact h1
      · rw [List.getElem?_eq_none (by omega)] at hi; cases hi
    rw [hg i i (by rw [List.getElem?_range hlt])]; exact hi
  · cases h
theorem bulk_one {H : Type} (d : DataW H) : 1 ≤ Rows.uptoBulk d := by
  cases d with
  | lit l => cases l <;> simp [Rows.uptoBulk]
  | nil => simp [Rows.uptoBulk]
  | ptr d => simp [Rows.uptoBulk]
  | slice elems spare => simp [Rows.uptoBulk]
  | agg parts => simp [Rows.uptoBulk]
  | iface u d => simp [Rows.uptoBulk]
  | map entries => simp [Rows.uptoBulk]
  | held t => simp [Rows.uptoBulk]
theorem told_int {P : Program} {t : TypeId} {k : IntKind} (hu : P.underlying t = some (.int k)) : Told P t (fun x : Int => [.int k x]) (fun _ => 1) (fun x => (Lit.int k x).wf = true) := by
  intro fuel H enc w held cs z h _
  obtain ⟨n, rfl, rfl, hw⟩ := DataW.trod_int hu h
  exact ⟨n, .cons (.int k n) rfl .nil, hw, bulk_one _⟩
theorem told_bool {P : Program} {t : TypeId} (hu : P.underlying t = some .bool) : Told P t (fun x : Bool => [.bool x]) (fun _ => 1) (fun _ => True) := by
  intro fuel H enc w held cs z h _
  obtain ⟨n, rfl, rfl⟩ := DataW.trod_bool hu h
  exact ⟨n, .cons (.bool n) rfl .nil, trivial, bulk_one _⟩
theorem told_string {P : Program} {t : TypeId} (hu : P.underlying t = some .string) : Told P t (fun s : ByteArray => [.str s]) (fun s => s.size + 1) (fun s => s.size ≤ 140737488351232) := by
  intro fuel H enc w held cs z h hq
  obtain ⟨s, rfl, rfl, hs⟩ := DataW.trod_string hu h
  refine ⟨s, .cons (.str s) rfl .nil, ?_, ?_⟩
  · have := hq s.data.toList.length (by simp [DataW.weights])
    simpa using this
  · simp [Rows.uptoBulk]
def sumOf {α : Type} (sz : α → Nat) : List α → Nat
  | [] => 0
  | x :: l => sz x + sumOf sz l
theorem sumOf_le {α : Type} (sz : α → Nat) {l : List α} {x : α} (h : x ∈ l) : sz x ≤ sumOf sz l := by
  induction l with
  | nil => cases h
  | cons y l ih =>
    rw [sumOf]
    cases h with
    | head => exact Nat.le_add_right _ _
    | tail _ h => exact Nat.le_trans (ih h) (Nat.le_add_left _ _)
theorem rows_told {α : Type} {P : Program} {e : TypeId} {cells : α → List AV} {sz : α → Nat} {ok : α → Prop} {n : Nat} (ht : ToldAt P e cells sz ok n) {H : Type} {enc : TypeId × Value → H} {w : World} {held : Bool} (get : Nat → Option (List Value)) :
    ∀ (elems : List (DataW H × List MemPlace)) (k : Nat), (∀ i, i < elems.length → (get (k + i)).bind (DataW.trod enc P w 0 (fun _ => true) held n e) = elems[i]?) → (∀ q ∈ DataW.weightsAll P e (elems.map (·.1)), q ≤ 140737488351232) →
    ∃ l : List α, l.length = elems.length ∧ (∀ i x, l[i]? = some x → ∃ cs, get (k + i) = some cs ∧ VL (gh1 (mAll w)) w (cells x) cs) ∧ (∀ x ∈ l, ok x) ∧ sumOf sz l ≤ Rows.uptoBulkAll (elems.map (·.1)) := by
  intro elems
  induction elems with
  | nil => intro k _ _; exact ⟨[], rfl, (fun i x hi => (by simp at hi)), (fun x hx => (by cases hx)), Nat.zero_le _⟩
  | cons y elems ih =>
    intro k h hq
    rw [List.map_cons, DataW.weightsAll] at hq
    have h0 := h 0 (by simp)
    rw [List.getElem?_cons_zero, Nat.add_zero] at h0
    cases hc : get k with
    | none => rw [hc] at h0; cases h0
    | some cs =>
      rw [hc] at h0
      obtain ⟨x, hx, hox, hsx⟩ := ht h0 (fun q hm => hq q (List.mem_append_left _ hm))
      obtain ⟨l, hl, hg, ho, hs⟩ := ih (k + 1) (fun i hi => by
        have := h (i + 1) (by rw [List.length_cons]; omega)
        rw [List.getElem?_cons_succ] at this
        rw [← this, show k + 1 + i = k + (i + 1) by omega]) (fun q hm => hq q (List.mem_append_right _ hm))
      refine ⟨x :: l, by rw [List.length_cons, List.length_cons, hl], fun i u hi => ?_, fun u hu => ?_, ?_⟩
      · cases i with
        | zero => rw [List.getElem?_cons_zero] at hi; injection hi with hi; subst hi; exact ⟨cs, hc, hx⟩
        | succ i => rw [List.getElem?_cons_succ] at hi; obtain ⟨c, h1, h2⟩ := hg i u hi; exact ⟨c, by rw [show k + (i + 1) = k + 1 + i by omega]; exact h1, h2⟩
      · cases hu with
        | head => exact hox
        | tail _ hu => exact ho u hu
      · rw [sumOf, List.map_cons, Rows.uptoBulkAll]; omega
/-- A slice: c: how many cells an element has; B: how many bytes. -/
theorem told_slice_at {α : Type} {P : Program} {t e : TypeId} {cells : α → List AV} {sz : α → Nat} {ok : α → Prop} (c B : Nat) (hc0 : 0 < c) (hu : P.underlying t = some (.slice e)) (hc : P.cellsOf e = c) (hb : P.bytesOf e = B) (hcl : ∀ x, (cells x).length = c) (fuel : Nat) (he : ∀ n, n < fuel → ToldAt P e cells sz ok n) :
    ToldAt P t (fun l : List α => [.sl 0 (l.map cells)]) (fun l => sumOf sz l + 1) (fun l => l.length * B ≤ 140737488351232 ∧ ∀ x ∈ l, ok x) fuel := by
  intro H enc w held cs z h hq
  rcases DataW.trod_slice hu h with ⟨rfl, rfl⟩ | ⟨a, len, cap, elems, rest, n, rfl, rfl, rfl, _, hlc, hcm, hlen, hel, _, _⟩
  · exact ⟨[], .cons (.sl0 (.inl rfl)) rfl .nil, ⟨by simp, (fun x hx => (by cases hx))⟩, bulk_one _⟩
  · simp only [DataW.weights, hu] at hq
    obtain ⟨l, hl, hg, ho, hs⟩ := rows_told (he n (Nat.lt_succ_self n)) (H := H) (enc := enc) (w := w) (held := held) (fun i => w.cells? 0 (a.add (i * P.cellsOf e)) (P.cellsOf e)) elems 0
      (fun i hi => by rw [Nat.zero_add]; exact hel i (by omega)) (fun q hm => hq q (List.mem_cons_of_mem _ (List.mem_append_left _ hm)))
    have hll : l.length = len := by omega
    refine ⟨l, .cons ?_ rfl .nil, ⟨?_, ho⟩, ?_⟩
    · rcases Nat.eq_zero_or_pos l.length with h0 | h0
      · have hnil : l = [] := List.eq_nil_of_length_eq_zero h0
        subst hnil
        have : len = 0 := by omega
        subst this
        exact .sl0 (.inl rfl)
      · have key : ∀ (j i : Nat) (el : List AV) (x : AV), (l.map cells)[j]? = some el → el[i]? = some x → ∃ u, w.cell? ⟨a.block, a.off + (j * c + i), none⟩ = some u ∧ u.oneCell' = true ∧ V (gh1 (mAll w)) w x u ∧ a.spot = none := by
          intro j i el x hj hi
          rw [List.getElem?_map] at hj
          obtain ⟨p, hp, rfl⟩ := Option.map_eq_some_iff.1 hj
          obtain ⟨cs, h1, h2⟩ := hg j p hp
          rw [Nat.zero_add] at h1
          obtain ⟨g1, g2⟩ := cells_at h1
          have hil : i < cs.length := by have := (List.getElem?_eq_some_iff.1 hi).1; rw [h2.1] at this; exact this
          obtain ⟨v1, v2⟩ := h2.2 i x cs[i] hi (List.getElem?_eq_getElem hil)
          have hcell := g2 i cs[i] (List.getElem?_eq_getElem hil)
          rw [hc, Addr.add_add] at hcell
          have hsp := spot_none hcell
          by_cases h00 : j * c + i = 0
          · have e0 : a.add (j * c + i) = a := by unfold Addr.add; rw [if_pos h00]
            rw [e0] at hcell hsp
            have ea : (⟨a.block, a.off + (j * c + i), none⟩ : Addr) = a := by rw [h00, Nat.add_zero, ← hsp]
            exact ⟨_, by rw [ea]; exact hcell, v2, v1, hsp⟩
          · have e0 : a.add (j * c + i) = ⟨a.block, a.off + (j * c + i), none⟩ := by unfold Addr.add; rw [if_neg h00]
            rw [e0] at hcell
            have h0' : 0 < l.length := h0
            -- the row's own place: of its first cell
            have hp0 : l[0]? = some l[0] := List.getElem?_eq_getElem h0'
            obtain ⟨cs0, k1, k2⟩ := hg 0 _ hp0
            obtain ⟨q1, q2⟩ := cells_at k1
            have hl0 : 0 < cs0.length := by rw [q1, hc]; exact hc0
            have hz := q2 0 _ (List.getElem?_eq_getElem hl0)
            have ez : (a.add ((0 + 0) * P.cellsOf e)).add 0 = a := by unfold Addr.add; simp
            rw [ez] at hz
            exact ⟨_, hcell, v2, v1, spot_none hz⟩
        have hsp : a.spot = none := by
          have hel0 : (l.map cells)[0]? = some (cells l[0]) := by rw [List.getElem?_map, List.getElem?_eq_getElem h0]; rfl
          have hc1 : 0 < (cells l[0]).length := by rw [hcl]; exact hc0
          obtain ⟨_, _, _, _, h4⟩ := key 0 0 _ _ hel0 (List.getElem?_eq_getElem hc1)
          exact h4
        have ea : a = ⟨a.block, a.off, none⟩ := by cases a; simp at hsp; subst hsp; rfl
        rw [ea]
        refine .sl (sz := c) (fun j i => (w.cell? ⟨a.block, a.off + (j * c + i), none⟩).getD undef) (by omega) (by simp; omega) hlc hcm hc0 (fun el hel => ?_) (.inl rfl) (fun j i el x hj hi => ?_) (fun j i el x hj hi => ?_)
        · obtain ⟨p, _, rfl⟩ := List.mem_map.1 hel
          exact hcl p
        · obtain ⟨u, h1, h2, h3, _⟩ := key j i el x hj hi
          exact ⟨mAll_cell h1, by rw [h1]; rfl, by rw [h1]; exact h2⟩
        · obtain ⟨u, h1, h2, h3, _⟩ := key j i el x hj hi
          rw [h1]; exact h3
    · have := hq ((elems.length + rest.length) * P.bytesOf e) (by simp)
      rw [hb] at this
      rw [hl]
      exact Nat.le_trans (Nat.mul_le_mul_right _ (Nat.le_add_right _ _)) this
    · simp only [Rows.uptoBulk]; omega
theorem told_slice {α : Type} {P : Program} {t e : TypeId} {cells : α → List AV} {sz : α → Nat} {ok : α → Prop} (c B : Nat) (hc0 : 0 < c) (hu : P.underlying t = some (.slice e)) (hc : P.cellsOf e = c) (hb : P.bytesOf e = B) (hcl : ∀ x, (cells x).length = c) (he : Told P e cells sz ok) :
    Told P t (fun l : List α => [.sl 0 (l.map cells)]) (fun l => sumOf sz l + 1) (fun l => l.length * B ≤ 140737488351232 ∧ ∀ x ∈ l, ok x) := fun fuel => told_slice_at c B hc0 hu hc hb hcl fuel (fun n _ => he n)
theorem ToldAt.map {α β : Type} {P : Program} {t : TypeId} {cells : α → List AV} {sz : α → Nat} {ok : α → Prop} {fuel : Nat} (h : ToldAt P t cells sz ok fuel) {cells' : β → List AV} {sz' : β → Nat} {ok' : β → Prop} (f : α → β) (h1 : ∀ x, cells' (f x) = cells x) (h2 : ∀ x, sz' (f x) ≤ sz x) (h3 : ∀ x, ok x → ok' (f x)) : ToldAt P t cells' sz' ok' fuel := by
  intro H enc w held cs z h' hq
  obtain ⟨x, a, b, c⟩ := h h' hq
  exact ⟨f x, by rw [h1]; exact a, h3 x b, Nat.le_trans (h2 x) c⟩
/-- A field's part of a struct's cells. -/
theorem told_field {α : Type} {P : Program} {t : TypeId} {cells : α → List AV} {sz : α → Nat} {ok : α → Prop} {n : Nat} (ht : ToldAt P t cells sz ok n) {H : Type} {enc : TypeId × Value → H} {w : World} {held : Bool} {cs : List Value} {off k : Nat} {y : DataW H × List MemPlace} (hk : P.cellsOf t = k)
    (h : DataW.trod enc P w 0 (fun _ => true) held n t ((cs.drop off).take (P.cellsOf t)) = some y) (hq : ∀ q ∈ DataW.weights P t y.1, q ≤ 140737488351232) : ∃ x, VL (gh1 (mAll w)) w (cells x) ((cs.drop off).take k) ∧ ok x ∧ sz x ≤ Rows.uptoBulk y.1 := by
  rw [hk] at h
  exact ht h hq
/-- An argument, by its reading and its weights. -/
theorem told_arg {α : Type} {P : Program} {t : TypeId} {cells : α → List AV} {sz : α → Nat} {ok : α → Prop} (ht : Told P t cells sz ok) {H : Type} {enc : TypeId × Value → H} {w : World} {held : Bool} {ts : List TypeId} {ds : List (DataW H)} {j : Nat} {v : Value} {z : DataW H} {ps : List MemPlace}
    (h : DataW.Trod enc P w 0 (fun _ => true) held t v z ps) (hsz : (DataW.weightsEach P ts ds).all (· ≤ reachBytes) = true) (hj : ts[j]? = some t) (hd : ds[j]? = some z) : ∃ x, VL (gh1 (mAll w)) w (cells x) v.cells.toList ∧ ok x ∧ sz x ≤ Rows.uptoBulk z := by
  obtain ⟨fuel, hf⟩ := h
  obtain ⟨x, h1, h2, h3⟩ := ht fuel hf (fun q hq => by
    have := List.all_eq_true.1 hsz q (DataW.weights_mem_each hj hd q hq)
    exact of_decide_eq_true this)
  exact ⟨x, h1, h2, h3⟩
theorem vl_one {G : Gh} {w : World} {x : AV} {v : Value} (h : VL G w [x] v.cells.toList) (hn : ∀ cs, v ≠ .agg cs) : V G w x v := by
  cases v with
  | agg cs => exact absurd rfl (hn cs)
  | _ => exact (h.2 0 _ _ rfl rfl).1
theorem vl_struct {G : Gh} {w : World} {xs : List AV} {v : Value} (h : VL G w xs v.cells.toList) (hn : xs.length ≠ 1) : V G w (.agg xs) v := by
  cases v with
  | agg cs => exact VL.agg h
  | _ => exact absurd h.1 hn
theorem vl_agg {G : Gh} {w : World} {xs : List AV} {cs : Array Value} (h : VL G w xs (Value.agg cs).cells.toList) : V G w (.agg xs) (.agg cs) := VL.agg h
/-- The law's call: true, and what there was is as it was. -/
theorem law_calls {C : Cx} {f : FuncId} {args : List AV} (h : ACall C f args (.bool true) none) {W : World} {vs : Array Value} (hgi : C.GI W) (hl : vs.size = args.length) (hV : ∀ (i : Nat) (x : AV) (v : Value), args[i]? = some x → vs[i]? = some v → V (gh1 (mAll W)) W x v) :
    Calls C.P f vs W fun e w' => e = .returned (.bool true) ∧ Below W.heap.size W w' :=
  (h.2 (mAll W) W vs hgi (fun b hb => mAll_end W b hb) hl hV).mono (fun e w' ⟨v, m', he, hb, _, _, hv, _⟩ => ⟨by rw [he]; cases hv; rfl, hb⟩)
end Go.Proofs.AL
namespace Go.Proofs.AL
open Go Go.RowKit Go.Proofs.Try Go.Proofs.Ytknabihpplaheaa
set_option maxRecDepth 100000
set_option linter.unusedVariables false
def iok (n : Int) : Prop := (Lit.int .i64 n).wf = true
mutual
def Nd.wf : Nd → Prop
  | .mk k t y n f o a ta l => iok k ∧ iok n ∧ iok f ∧ iok o ∧ iok a ∧ iok ta ∧ Nd.wfL l
def Nd.wfL : List Nd → Prop
  | [] => True
  | x :: l => x.wf ∧ Nd.wfL l
end
mutual
def Nd.sz : Nd → Nat
  | .mk k t y n f o a ta l => t.size + y.size + Nd.szL l + 10
def Nd.szL : List Nd → Nat
  | [] => 0
  | x :: l => x.sz + Nd.szL l
end
theorem Nd.szL_sum (l : List Nd) : Nd.szL l = sumOf Nd.sz l := by induction l with | nil => rfl | cons x l ih => rw [Nd.szL, sumOf, ih]
theorem Nd.wfL_all {l : List Nd} (h : ∀ x ∈ l, x.wf) : Nd.wfL l := by
  induction l with
  | nil => trivial
  | cons x l ih => exact ⟨h x (List.mem_cons_self), ih (fun y hy => h y (List.mem_cons_of_mem _ hy))⟩
theorem take_drop_one {α : Type} {cs : List α} {i : Nat} {v : α} (h : cs[i]? = some v) : (cs.drop i).take 1 = [v] := by
  have hl := (List.getElem?_eq_some_iff.1 h).1
  rw [List.drop_eq_getElem_cons hl]
  have := (List.getElem?_eq_some_iff.1 h).2
  simp [this]
theorem told_nd : Told prog 24 Nd.cells Nd.sz Nd.wf := by
  intro fuel
  induction fuel using Nat.strongRecOn with | _ fuel ih
  intro H enc w held cs z h hq
  obtain ⟨xs, n, rfl, rfl, hl, hlen, hf⟩ := DataW.trod_struct Try.underlying24 h
  have et : prog.cellsOf 24 = 9 := by kernel_rfl
  rw [et] at hl
  simp only [DataW.weights, Try.underlying24] at hq
  match cs, hl with
  | [v0, v1, v2, v3, v4, v5, v6, v7, v8], _ =>
    match xs, hlen with
    | [y0, y1, y2, y3, y4, y5, y6, y7, y8], _ =>
      simp only [List.map_cons, List.map_nil, DataW.weightsEach, List.append_nil] at hq
      have int : ∀ (t : TypeId) (hu : prog.underlying t = some (.int .i64)) (n : Nat), ToldAt prog t (fun x : Int => [.int .i64 x]) (fun _ => 1) (fun x => (Lit.int .i64 x).wf = true) n := fun t hu n => @told_int prog t .i64 hu n
      have str : ∀ (t : TypeId) (hu : prog.underlying t = some .string) (n : Nat), ToldAt prog t (fun s : ByteArray => [.str s]) (fun s => s.size + 1) (fun s => s.size ≤ 140737488351232) n := fun t hu n => @told_string prog t hu n
      have kids : ToldAt prog 22 (fun l : List Nd => [.sl 0 (l.map Nd.cells)]) (fun l => sumOf Nd.sz l + 1) (fun l => l.length * 104 ≤ 140737488351232 ∧ ∀ x ∈ l, x.wf) n :=
        @told_slice_at Nd prog 22 24 Nd.cells Nd.sz Nd.wf 9 104 (by decide) Try.underlying22 et (by kernel_rfl) Nd.cells_length n (fun m hm => ih m (by omega))
      obtain ⟨x0, g0, o0, s0⟩ := told_field (int 3 Try.underlying3 n) (k := 1) (off := 0) (by kernel_rfl) (hf 0 _ rfl) (fun q hm => hq q (by simp [hm]))
      obtain ⟨x1, g1, o1, s1⟩ := told_field (str 9 Try.underlying9 n) (k := 1) (off := 1) (by kernel_rfl) (hf 1 _ rfl) (fun q hm => hq q (by simp [hm]))
      obtain ⟨x2, g2, o2, s2⟩ := told_field (str 9 Try.underlying9 n) (k := 1) (off := 2) (by kernel_rfl) (hf 2 _ rfl) (fun q hm => hq q (by simp [hm]))
      obtain ⟨x3, g3, o3, s3⟩ := told_field (int 2 Try.underlying2 n) (k := 1) (off := 3) (by kernel_rfl) (hf 3 _ rfl) (fun q hm => hq q (by simp [hm]))
      obtain ⟨x4, g4, o4, s4⟩ := told_field (int 3 Try.underlying3 n) (k := 1) (off := 4) (by kernel_rfl) (hf 4 _ rfl) (fun q hm => hq q (by simp [hm]))
      obtain ⟨x5, g5, o5, s5⟩ := told_field (int 3 Try.underlying3 n) (k := 1) (off := 5) (by kernel_rfl) (hf 5 _ rfl) (fun q hm => hq q (by simp [hm]))
      obtain ⟨x6, g6, o6, s6⟩ := told_field (int 3 Try.underlying3 n) (k := 1) (off := 6) (by kernel_rfl) (hf 6 _ rfl) (fun q hm => hq q (by simp [hm]))
      obtain ⟨x7, g7, o7, s7⟩ := told_field (int 3 Try.underlying3 n) (k := 1) (off := 7) (by kernel_rfl) (hf 7 _ rfl) (fun q hm => hq q (by simp [hm]))
      obtain ⟨x8, g8, o8, s8⟩ := told_field kids (k := 1) (off := 8) (by kernel_rfl) (hf 8 _ rfl) (fun q hm => hq q (by simp [hm]))
      refine ⟨.mk x0 x1 x2 x3 x4 x5 x6 x7 x8, ?_, ⟨o0, o3, o4, o5, o6, o7, Nd.wfL_all o8.2⟩, ?_⟩
      · have := (((((((g0.append g1).append g2).append g3).append g4).append g5).append g6).append g7).append g8
        simpa [Nd.cells, Nd.rows_map] using this
      · simp only [Nd.sz, Rows.uptoBulk, List.map_cons, List.map_nil, Rows.uptoBulkAll, Nd.szL_sum]
        omega
mutual
theorem Nd.count_le_sz : ∀ x : Nd, x.count ≤ x.sz
  | .mk k t y n f o a ta l => by
    have := Nd.countL_le_szL l
    rw [Nd.count, Nd.sz]; omega
theorem Nd.countL_le_szL : ∀ l : List Nd, Nd.countL l ≤ Nd.szL l
  | [] => by simp [Nd.countL]
  | x :: l => by
    have h1 := Nd.count_le_sz x
    have h2 := Nd.countL_le_szL l
    rw [Nd.countL, Nd.szL]; omega
end
end Go.Proofs.AL
