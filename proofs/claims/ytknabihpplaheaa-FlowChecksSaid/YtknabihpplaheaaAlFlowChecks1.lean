/- What the functions that the law FlowChecks reaches compute, and the law (part 1). -/
import Derived.Test.YtknabihpplaheaaRows
import Derived.Test.YtknabihpplaheaaTc
import Derived.ChangeArms
import Derived.SizedLaws
import Derived.DataElems
import Derived.WalkKit
import Derived.ProofKit
import Derived.OpenShut
import Derived.ShutString
import Derived.ChangeOld
import Derived.Below
namespace Go.Proofs.AL
open Go Go.RowKit Go.Proofs.Try
set_option maxRecDepth 100000
/-- A node, as the program has it. -/
inductive Nd where
  | mk (kind : Int) (text type : ByteArray) (n from_ to at_ typeAt : Int) (kids : List Nd)
def Nd.kind : Nd → Int | .mk k .. => k
def Nd.text : Nd → ByteArray | .mk _ t .. => t
def Nd.type : Nd → ByteArray | .mk _ _ t .. => t
def Nd.n : Nd → Int | .mk _ _ _ n .. => n
def Nd.from_ : Nd → Int | .mk _ _ _ _ f .. => f
def Nd.to : Nd → Int | .mk _ _ _ _ _ t .. => t
def Nd.at_ : Nd → Int | .mk _ _ _ _ _ _ a .. => a
def Nd.typeAt : Nd → Int | .mk _ _ _ _ _ _ _ a _ => a
def Nd.kids : Nd → List Nd | .mk _ _ _ _ _ _ _ _ l => l
mutual
def Nd.cells : Nd → List AV
  | .mk k t y n f o a ta l => [.int .i64 k, .str t, .str y, .int .i64 n, .int .i64 f, .int .i64 o, .int .i64 a, .int .i64 ta, .sl 0 (Nd.rows l)]
def Nd.rows : List Nd → List (List AV)
  | [] => []
  | x :: l => x.cells :: Nd.rows l
end
theorem Nd.cells_eq (x : Nd) : x.cells = [.int .i64 x.kind, .str x.text, .str x.type, .int .i64 x.n, .int .i64 x.from_, .int .i64 x.to, .int .i64 x.at_, .int .i64 x.typeAt, .sl 0 (Nd.rows x.kids)] := by cases x; rfl
theorem Nd.rows_map (l : List Nd) : Nd.rows l = l.map Nd.cells := by induction l with | nil => rfl | cons x l ih => rw [Nd.rows, ih]; rfl
@[simp] theorem Nd.rows_length (l : List Nd) : (Nd.rows l).length = l.length := by rw [Nd.rows_map]; simp
@[simp] theorem Nd.rows_eq_nil (l : List Nd) : (Nd.rows l = []) = (l = []) := by cases l <;> simp [Nd.rows]
@[simp] theorem Nd.rows_nil : Nd.rows [] = [] := rfl
instance : Inhabited Nd := ⟨.mk 0 .empty .empty 0 0 0 0 0 []⟩
theorem Nd.rows_getD {l : List Nd} {i : Nat} (h : i < l.length) : (Nd.rows l).getD i [] = (l.getD i default).cells := by
  rw [Nd.rows_map]; simp [h]
@[simp] theorem Nd.cells_length (x : Nd) : x.cells.length = 9 := by simp [Nd.cells_eq]
@[simp] theorem Nd.rows_all (l : List Nd) : (∀ el ∈ Nd.rows l, el.length = 9) = True := by
  rw [Nd.rows_map]; simp
theorem Nd.rows_append (a b : List Nd) : Nd.rows (a ++ b) = Nd.rows a ++ Nd.rows b := by simp [Nd.rows_map]
@[simp] theorem Nd.append_rows (a b : List Nd) : Nd.rows a ++ Nd.rows b = Nd.rows (a ++ b) := (Nd.rows_append a b).symm
@[simp] theorem Nd.append_cells (a : List Nd) (x : Nd) : Nd.rows a ++ [x.cells] = Nd.rows (a ++ [x]) := by rw [Nd.rows_append]; rfl
theorem Nd.rows_one (x : Nd) : Nd.rows [x] = [x.cells] := rfl
@[simp] theorem Nd.mk_eta (x : Nd) : Nd.mk x.kind x.text x.type x.n x.from_ x.to x.at_ x.typeAt x.kids = x := by cases x; rfl
@[simp] theorem kind_mk (k t y n f o a ta l) : (Nd.mk k t y n f o a ta l).kind = k := rfl
@[simp] theorem text_mk (k t y n f o a ta l) : (Nd.mk k t y n f o a ta l).text = t := rfl
@[simp] theorem type_mk (k t y n f o a ta l) : (Nd.mk k t y n f o a ta l).type = y := rfl
@[simp] theorem n_mk (k t y n f o a ta l) : (Nd.mk k t y n f o a ta l).n = n := rfl
@[simp] theorem from__mk (k t y n f o a ta l) : (Nd.mk k t y n f o a ta l).from_ = f := rfl
@[simp] theorem to_mk (k t y n f o a ta l) : (Nd.mk k t y n f o a ta l).to = o := rfl
@[simp] theorem at__mk (k t y n f o a ta l) : (Nd.mk k t y n f o a ta l).at_ = a := rfl
@[simp] theorem typeAt_mk (k t y n f o a ta l) : (Nd.mk k t y n f o a ta l).typeAt = ta := rfl
@[simp] theorem kids_mk (k t y n f o a ta l) : (Nd.mk k t y n f o a ta l).kids = l := rfl
@[simp] theorem Nd.c0 (x : Nd) : x.cells[0]? = some (.int .i64 x.kind) := by simp [Nd.cells_eq]
@[simp] theorem Nd.c1 (x : Nd) : x.cells[1]? = some (.str x.text) := by simp [Nd.cells_eq]
@[simp] theorem Nd.c2 (x : Nd) : x.cells[2]? = some (.str x.type) := by simp [Nd.cells_eq]
@[simp] theorem Nd.c3 (x : Nd) : x.cells[3]? = some (.int .i64 x.n) := by simp [Nd.cells_eq]
@[simp] theorem Nd.c4 (x : Nd) : x.cells[4]? = some (.int .i64 x.from_) := by simp [Nd.cells_eq]
@[simp] theorem Nd.c5 (x : Nd) : x.cells[5]? = some (.int .i64 x.to) := by simp [Nd.cells_eq]
@[simp] theorem Nd.c6 (x : Nd) : x.cells[6]? = some (.int .i64 x.at_) := by simp [Nd.cells_eq]
@[simp] theorem Nd.c7 (x : Nd) : x.cells[7]? = some (.int .i64 x.typeAt) := by simp [Nd.cells_eq]
@[simp] theorem Nd.c8 (x : Nd) : x.cells[8]? = some (.sl 0 (Nd.rows x.kids)) := by simp [Nd.cells_eq]
@[simp] theorem Nd.g0 (x : Nd) (h : 0 < x.cells.length) : x.cells[0] = .int .i64 x.kind := by have := Nd.c0 x; rw [List.getElem?_eq_getElem h] at this; exact Option.some.inj this
@[simp] theorem Nd.g1 (x : Nd) (h : 1 < x.cells.length) : x.cells[1] = .str x.text := by have := Nd.c1 x; rw [List.getElem?_eq_getElem h] at this; exact Option.some.inj this
@[simp] theorem Nd.g2 (x : Nd) (h : 2 < x.cells.length) : x.cells[2] = .str x.type := by have := Nd.c2 x; rw [List.getElem?_eq_getElem h] at this; exact Option.some.inj this
@[simp] theorem Nd.g3 (x : Nd) (h : 3 < x.cells.length) : x.cells[3] = .int .i64 x.n := by have := Nd.c3 x; rw [List.getElem?_eq_getElem h] at this; exact Option.some.inj this
@[simp] theorem Nd.g4 (x : Nd) (h : 4 < x.cells.length) : x.cells[4] = .int .i64 x.from_ := by have := Nd.c4 x; rw [List.getElem?_eq_getElem h] at this; exact Option.some.inj this
@[simp] theorem Nd.g5 (x : Nd) (h : 5 < x.cells.length) : x.cells[5] = .int .i64 x.to := by have := Nd.c5 x; rw [List.getElem?_eq_getElem h] at this; exact Option.some.inj this
@[simp] theorem Nd.g6 (x : Nd) (h : 6 < x.cells.length) : x.cells[6] = .int .i64 x.at_ := by have := Nd.c6 x; rw [List.getElem?_eq_getElem h] at this; exact Option.some.inj this
@[simp] theorem Nd.g7 (x : Nd) (h : 7 < x.cells.length) : x.cells[7] = .int .i64 x.typeAt := by have := Nd.c7 x; rw [List.getElem?_eq_getElem h] at this; exact Option.some.inj this
@[simp] theorem Nd.g8 (x : Nd) (h : 8 < x.cells.length) : x.cells[8] = .sl 0 (Nd.rows x.kids) := by have := Nd.c8 x; rw [List.getElem?_eq_getElem h] at this; exact Option.some.inj this
@[simp] theorem Nd.take9 (x : Nd) : x.cells.take 9 = x.cells := by simp [Nd.cells_eq]
@[simp] theorem Nd.drop9 (x : Nd) : x.cells.drop 9 = [] := by simp [Nd.cells_eq]
@[simp] theorem Nd.er_cells (x : Nd) : x.cells.map er1 = x.cells := by simp [Nd.cells_eq, er1]
@[simp] theorem Nd.frz_cells (s : AS) (x : Nd) : x.cells.map (frz1 s) = x.cells := by simp [Nd.cells_eq, frz1]
@[simp] theorem Nd.er_rows (l : List Nd) : (Nd.rows l).map (List.map er1) = Nd.rows l := by rw [Nd.rows_map]; simp
@[simp] theorem Nd.zero_cells : [.int .i64 0, .str ByteArray.empty, .str ByteArray.empty, .int .i64 0, .int .i64 0, .int .i64 0, .int .i64 0, .int .i64 0, .sl 0 []] = (default : Nd).cells := rfl
noncomputable def cx : Cx := ⟨prog, fun _ => True, fun _ _ _ _ => trivial, by kernel_rfl⟩
@[simp] theorem cx_P : cx.P = prog := rfl
@[simp high] theorem Nd.idx {tk : Nat} {l : List Nd} {k : IntKind} {n : Int} : idxAddr prog 22 (.sl tk (Nd.rows l)) (.int k n) = if 0 ≤ n ∧ n < l.length then some (.cptr (l.getD n.toNat default).cells) else none := by
  simp only [idxAddr, T.elT_22, T.szOf_24, Nd.rows_length, Nd.rows_all, if_true]
  by_cases h : 0 ≤ n ∧ n < l.length
  · rw [if_pos h, if_pos h, Nd.rows_getD (by omega)]
  · rw [if_neg h, if_neg h]
mutual
theorem Nd.pu_cells : ∀ x : Nd, puL x.cells = true
  | .mk k t y n f o a ta l => by simp [Nd.cells, puL, pu, Nd.pu_rows l]
theorem Nd.pu_rows : ∀ l : List Nd, puLL (Nd.rows l) = true
  | [] => rfl
  | x :: l => by simp [Nd.rows, puLL, Nd.pu_cells x, Nd.pu_rows l]
end
attribute [simp] Nd.pu_rows Nd.pu_cells
theorem Nd.ind' {P : Nd → Prop} (h : ∀ k t y n f o a ta l, (∀ x ∈ l, P x) → P (.mk k t y n f o a ta l)) : ∀ x, P x
  | .mk k t y n f o a ta l => h k t y n f o a ta l (fun x hx => Nd.ind' h x)
  termination_by x => x
  decreasing_by (have := List.sizeOf_lt_of_mem hx; simp_wf; omega)
theorem Nd.ind {P : Nd → Prop} (h : ∀ x : Nd, (∀ z ∈ x.kids, P z) → P x) : ∀ x, P x := Nd.ind' (fun k t y n f o a ta l hl => h (.mk k t y n f o a ta l) hl)
theorem Nd.lens {N nx t : Nat} {m : List (Nat × AV)} {ob : Obs} {lv : Lvs} {lp : Lps} {x : Nd} (h : Lens (S N m ob lv nx lp)) (ht : look m t = some (.agg x.cells)) : (x.kids.length : Int) ≤ 9223372036854775807 := by
  have := h.agg t x.cells 8 0 (Nd.rows x.kids) ht (Nd.c8 x)
  simpa using this
theorem Nd.mem_kids (x : Nd) : AV.sl 0 (Nd.rows x.kids) ∈ x.cells := by rw [Nd.cells_eq]; simp
theorem Nd.sub_kids (x : Nd) : Sub (.agg x.cells) (.sl 0 (Nd.rows x.kids)) := .agg (by rw [Nd.cells_eq]; simp) (.self _)
theorem Nd.sub_row {k : Nat} {l : List Nd} {x : Nd} (hx : x ∈ l) {y : AV} (h : Sub (.agg x.cells) y) (hy : y ≠ .agg x.cells) : Sub (.sl k (Nd.rows l)) y := by
  cases h with
  | self => exact absurd rfl hy
  | agg hc hs => exact .sl (el := x.cells) (by rw [Nd.rows_map]; exact List.mem_map_of_mem hx) hc hs
@[simp] theorem Nd.fold (k : Int) (t y : ByteArray) (n f o a ta : Int) (l : List Nd) : [AV.int .i64 k, .str t, .str y, .int .i64 n, .int .i64 f, .int .i64 o, .int .i64 a, .int .i64 ta, .sl 0 (Nd.rows l)] = (Nd.mk k t y n f o a ta l).cells := rfl
@[simp] theorem Nd.fold0 (k : Int) (t y : ByteArray) (n f o a ta : Int) : [AV.int .i64 k, .str t, .str y, .int .i64 n, .int .i64 f, .int .i64 o, .int .i64 a, .int .i64 ta, .sl 0 []] = (Nd.mk k t y n f o a ta []).cells := rfl
@[simp] theorem Nd.fold1 (k : Int) (t y : ByteArray) (n f o a ta : Int) (x : Nd) : [AV.int .i64 k, .str t, .str y, .int .i64 n, .int .i64 f, .int .i64 o, .int .i64 a, .int .i64 ta, .sl 0 [x.cells]] = (Nd.mk k t y n f o a ta [x]).cells := rfl
@[simp] theorem Nd.mk_default : Nd.mk 0 ByteArray.empty ByteArray.empty 0 0 0 0 0 [] = default := rfl
end Go.Proofs.AL
namespace Go.Proofs.AL
open Go Go.RowKit Go.Proofs.Try
set_option maxRecDepth 100000
mutual
def Nd.all (kind : Int) : Nd → List Nd
  | .mk k t y n f o a ta l => (if kind = 0 ∨ k = kind then [Nd.mk k t y n f o a ta l] else []) ++ Nd.allL kind l
def Nd.allL (kind : Int) : List Nd → List Nd
  | [] => []
  | x :: l => x.all kind ++ Nd.allL kind l
end
mutual
def Nd.count : Nd → Nat
  | .mk _ _ _ _ _ _ _ _ l => Nd.countL l + 1
def Nd.countL : List Nd → Nat
  | [] => 0
  | x :: l => x.count + Nd.countL l
end
theorem Nd.all_eq (kind : Int) (x : Nd) : x.all kind = (if kind = 0 ∨ x.kind = kind then [x] else []) ++ Nd.allL kind x.kids := by cases x; rw [Nd.all]; rfl
theorem Nd.count_eq (x : Nd) : x.count = Nd.countL x.kids + 1 := by cases x; rw [Nd.count]; rfl
mutual
theorem Nd.all_le (kind : Int) : ∀ x : Nd, (x.all kind).length ≤ x.count
  | .mk k t y n f o a ta l => by
    have := Nd.allL_le kind l
    rw [Nd.all, Nd.count]
    split <;> simp <;> omega
theorem Nd.allL_le (kind : Int) : ∀ l : List Nd, (Nd.allL kind l).length ≤ Nd.countL l
  | [] => by simp [Nd.allL]
  | x :: l => by
    have h1 := Nd.all_le kind x
    have h2 := Nd.allL_le kind l
    simp [Nd.allL, Nd.countL]; omega
end
mutual
theorem Nd.all0 : ∀ x : Nd, (x.all 0).length = x.count
  | .mk k t y n f o a ta l => by
    have := Nd.allL0 l
    rw [Nd.all, Nd.count]
    simp; omega
theorem Nd.allL0 : ∀ l : List Nd, (Nd.allL 0 l).length = Nd.countL l
  | [] => by simp [Nd.allL, Nd.countL]
  | x :: l => by
    have h1 := Nd.all0 x
    have h2 := Nd.allL0 l
    simp [Nd.allL, Nd.countL]; omega
end
theorem Nd.countL_append : ∀ a b : List Nd, Nd.countL (a ++ b) = Nd.countL a + Nd.countL b
  | [], b => by simp [Nd.countL]
  | x :: a, b => by simp [Nd.countL, Nd.countL_append a b]; omega
theorem Nd.allL_append (kind : Int) : ∀ a b : List Nd, Nd.allL kind (a ++ b) = Nd.allL kind a ++ Nd.allL kind b
  | [], b => by simp [Nd.allL]
  | x :: a, b => by simp [Nd.allL, Nd.allL_append kind a b]
theorem Nd.allL_take (kind : Int) {l : List Nd} {i : Nat} (h : i < l.length) : Nd.allL kind (l.take (i + 1)) = Nd.allL kind (l.take i) ++ l[i].all kind := by
  rw [List.take_succ_eq_append_getElem h, Nd.allL_append]; simp [Nd.allL]
theorem Nd.countL_take {l : List Nd} {i : Nat} (h : i < l.length) : Nd.countL (l.take (i + 1)) = Nd.countL (l.take i) + l[i].count := by
  rw [List.take_succ_eq_append_getElem h, Nd.countL_append]; simp [Nd.countL]
theorem Nd.countL_take_le (l : List Nd) (i : Nat) : Nd.countL (l.take i) ≤ Nd.countL l := by
  conv => rhs; rw [← List.take_append_drop i l, Nd.countL_append]
  omega
theorem Nd.count_get {l : List Nd} {i : Nat} (h : i < l.length) : l[i].count ≤ Nd.countL l := by
  have h1 := Nd.countL_take h
  have h2 := Nd.countL_take_le l (i + 1)
  omega
theorem b104 {n : Nat} (h : n ≤ 10000000) : n * 104 ≤ 140737488355328 := by omega
theorem all_ok (x : Nd) (kind : Int) (hb : x.count ≤ 10000000) : ACall cx 37 [.agg x.cells, .int .i64 kind] (.sl 0 (Nd.rows (x.all kind))) (some (0, 24)) := by
  induction x using Nd.ind with | _ x ih
  refine ACall.wpl (C := cx) T.func_37 (by kernel_rfl) rfl (by rfl) (fun hL => ?_)
  have hlen := Nd.lens (x := x) (t := 0) hL (by simp)
  clear hL
  rw [Nd.count_eq] at hb
  simp [f37]
  refine split2_i (fun h1 => ?_) (fun h1 => ?_) <;> simp [h1]
  rotate_left
  refine split2_i (fun h2 => ?_) (fun h2 => ?_) <;> simp [h2]
  all_goals
    first
    | (refine loopK [2, 1] (fun (p : Nat × Nat) nx => p.1 ≤ x.kids.length ∧ p.2 ≠ 0 ∧ p.2 ≠ 2 ∧ p.2 < nx) (fun p => [(6, .int .i64 (p.1 : Nat)), (5, .sl p.2 (Nd.rows ((if kind = 0 ∨ x.kind = kind then [x] else []) ++ Nd.allL kind (x.kids.take p.1))))]) (fun _ => [x.cells]) (fun p => [(p.2, 24)]) (fun p => x.kids.length - p.1) (0, 1) ⟨by simp, by simp, by simp, by simp⟩ ?hu [] rfl (by simp) ?_; case hu => clear ih; simp at h1; simp [Nd.allL, *]; done)
    | (refine loopK [2, 1] (fun (p : Nat × Nat) nx => p.1 ≤ x.kids.length ∧ p.2 ≠ 0 ∧ p.2 ≠ 2 ∧ p.2 < nx) (fun p => [(6, .int .i64 (p.1 : Nat)), (5, .sl p.2 (Nd.rows ((if kind = 0 ∨ x.kind = kind then [x] else []) ++ Nd.allL kind (x.kids.take p.1))))]) (fun _ => [x.cells]) (fun p => [(p.2, 24)]) (fun p => x.kids.length - p.1) (0, 3) ⟨by simp, by simp, by simp, by simp⟩ ?hu [] rfl (by simp) ?_; case hu => clear ih; simp at h1; simp [Nd.allL, Nd.rows_one, *]; done)
    | (refine loopK [2, 1] (fun (p : Nat × Nat) nx => p.1 ≤ x.kids.length ∧ p.2 ≠ 0 ∧ p.2 ≠ 2 ∧ p.2 < nx) (fun p => [(6, .int .i64 (p.1 : Nat)), (5, .sl p.2 (Nd.rows ((if kind = 0 ∨ x.kind = kind then [x] else []) ++ Nd.allL kind (x.kids.take p.1))))]) (fun _ => [x.cells]) (fun p => [(p.2, 24)]) (fun p => x.kids.length - p.1) (0, 3) ⟨by simp, by simp, by simp, by simp⟩ ?hu [] rfl (by simp) ?_; case hu => clear ih; simp at h1 h2; simp [Nd.allL, Nd.rows_one, *]; done)
    | (refine loopK [2, 1] (fun (p : Nat × Nat) nx => p.1 ≤ x.kids.length ∧ p.2 ≠ 0 ∧ p.2 ≠ 2 ∧ p.2 < nx) (fun p => [(6, .int .i64 (p.1 : Nat)), (5, .sl p.2 (Nd.rows ((if kind = 0 ∨ x.kind = kind then [x] else []) ++ Nd.allL kind (x.kids.take p.1))))]) (fun _ => [x.cells]) (fun p => [(p.2, 24)]) (fun p => x.kids.length - p.1) (0, 1) ⟨by simp, by simp, by simp, by simp⟩ ?hu [] rfl (by simp) ?_; case hu => clear ih; simp at h1 h2; simp [Nd.allL, Nd.rows_one, *]; done)
    rintro ⟨i, k⟩ nx g ⟨hi, hk, hk2, hkn⟩ hnx -
    dsimp only at hi hk hk2 hkn
    simp
    refine split2_i (fun h3 => ?_) (fun h3 => ?_) <;> simp [h3]
    · simp at h3
      have c1 := Nd.count_get h3
      have c2 := Nd.countL_take h3
      have c3 := Nd.countL_take_le x.kids (i + 1)
      have c4 := Nd.allL_le kind (x.kids.take i)
      have c5 := Nd.all_le kind x.kids[i]
      simp [h3]
      refine callP_i (ih _ (List.getElem_mem _) (by omega)) ?_
      simp
      have c6 : ((if kind = 0 ∨ x.kind = kind then [x] else []) : List Nd).length ≤ 1 := by split <;> simp
      have hkn' : ¬ nx = k := by omega
      simp [hk, hk2, hkn']
      refine ⟨b104 (by omega), ?_⟩
      exact againK_i (i + 1, nx + 1) _ ⟨h3, by simp, by dsimp only; omega, by simp⟩ (by dsimp only; omega) (by simp [wrap64_i h3 hlen, Nd.allL_take kind h3]) rfl (by simp)
    · simp at h3
      have : i = x.kids.length := by omega
      subst this
      simp [Nd.all_eq kind x, hk, hk2, ownOf]
theorem count_ok (x : Nd) (hb : x.count ≤ 10000000) : ACall cx 22 [.agg x.cells] (.int .i64 x.count) none := by
  refine ACall.wpc (C := cx) T.func_22 (by kernel_rfl) rfl (by rfl) ?_
  simp [f22]
  refine callP_i (all_ok x 0 hb) ?_
  simp [Nd.all0]
mutual
def Nd.deep : Nd → Int → Bool
  | .mk _ _ _ _ _ _ _ _ l, most => if most ≤ 0 then true else Nd.deepL l (IntKind.i64.wrap (most - 1))
def Nd.deepL : List Nd → Int → Bool
  | [], _ => false
  | x :: l, most => x.deep most || Nd.deepL l most
end
theorem Nd.deep_eq (x : Nd) (most : Int) : x.deep most = if most ≤ 0 then true else Nd.deepL x.kids (IntKind.i64.wrap (most - 1)) := by cases x; rw [Nd.deep]; rfl
theorem Nd.deepL_drop {l : List Nd} {i : Nat} {most : Int} (h : i < l.length) : Nd.deepL (l.drop i) most = (l[i].deep most || Nd.deepL (l.drop (i + 1)) most) := by
  rw [List.drop_eq_getElem_cons h]; simp [Nd.deepL]
theorem deep_ok (x : Nd) (most : Int) : ACall cx 21 [.agg x.cells, .int .i64 most] (.bool (x.deep most)) none := by
  induction x using Nd.ind generalizing most with | _ x ih
  refine ACall.wpl (C := cx) T.func_21 (by kernel_rfl) rfl (by rfl) (fun hL => ?_)
  have hlen := Nd.lens (x := x) (t := 0) hL (by simp)
  clear hL
  simp [f21]
  refine split2_i (fun h1 => ?_) (fun h1 => ?_) <;> simp [h1]
  · clear ih; simp at h1; simp [Nd.deep_eq x, h1]
  refine loopK [2, 1] (fun i _ => i ≤ x.kids.length ∧ Nd.deepL (x.kids.drop i) (IntKind.i64.wrap (most - 1)) = Nd.deepL x.kids (IntKind.i64.wrap (most - 1))) (fun i => [(5, .int .i64 (i : Nat))]) (fun _ => [x.cells]) (fun _ => []) (fun i => x.kids.length - i) 0 ⟨by simp, by simp⟩ (by simp) [] rfl (by simp) ?_
  rintro i nx g ⟨hi, hd⟩ - -
  simp
  refine split2_i (fun h3 => ?_) (fun h3 => ?_) <;> simp [h3]
  · simp at h3
    simp [h3]
    refine callP_i (ih _ (List.getElem_mem _) _) ?_
    simp
    rw [Nd.deepL_drop h3] at hd
    refine split2_i (fun h4 => ?_) (fun h4 => ?_) <;> simp [h4]
    · clear ih; simp at h1; simp [h4] at hd; simp [Nd.deep_eq x, *]
    · simp [h4] at hd
      exact againK_i (i + 1) _ ⟨h3, hd⟩ (by omega) (by simp [wrap64_i h3 hlen]) rfl (by simp)
  · simp at h3
    have : i = x.kids.length := by omega
    subst this
    clear ih; simp at h1; simp [Nd.deepL] at hd; simp [Nd.deep_eq x, *]
theorem Nd.ext_iff (a b : Nd) : a = b ↔ a.from_ = b.from_ ∧ a.to = b.to ∧ a.at_ = b.at_ ∧ a.typeAt = b.typeAt ∧ a.kind = b.kind ∧ a.text = b.text ∧ a.type = b.type ∧ a.n = b.n ∧ a.kids = b.kids := by
  cases a; cases b; simp; constructor
  · rintro ⟨rfl, rfl, rfl, rfl, rfl, rfl, rfl, rfl, rfl⟩; simp
  · rintro ⟨rfl, rfl, rfl, rfl, rfl, rfl, rfl, rfl, rfl⟩; simp
noncomputable instance : DecidableEq Nd := fun _ _ => Classical.propDecidable _
theorem take_eq_succ {α : Type} {a b : List α} {i : Nat} (h1 : i < a.length) (h2 : i < b.length) (h : a.take i = b.take i) : (a.take (i + 1) = b.take (i + 1)) = (a[i] = b[i]) := by
  rw [List.take_succ_eq_append_getElem h1, List.take_succ_eq_append_getElem h2, h]; exact propext ⟨fun e => by have := List.append_cancel_left e; injection this, fun e => by rw [e]⟩
set_option maxHeartbeats 4000000 in
theorem exact_ok (a b : Nd) : ACall cx 13 [.agg a.cells, .agg b.cells] (.bool (decide (a = b))) none := by
  induction a using Nd.ind generalizing b with | _ a ih
  refine ACall.wpl (C := cx) T.func_13 (by kernel_rfl) rfl (by rfl) (fun hL => ?_)
  have hlen := Nd.lens (x := a) (t := 0) hL (by simp)
  have hlen' := Nd.lens (x := b) (t := 1) hL (by simp)
  clear hL
  simp [f13]
  repeat' ((with_reducible refine split2_i (fun h => ?_) (fun h => ?_)) <;> simp [h])
  any_goals (clear ih; simp_all [Nd.ext_iff a b]; done)
  · clear ih
    simp at h
    intro e; subst e; exact h rfl
  have h9 := h
  have hl : a.kids.length = b.kids.length := by simp at h9; omega
  refine loopK [2, 3] (fun i _ => i ≤ a.kids.length ∧ a.kids.take i = b.kids.take i) (fun i => [(5, .int .i64 (i : Nat))]) (fun _ => [a.cells, b.cells]) (fun _ => []) (fun i => a.kids.length - i) 0 ⟨by simp, by simp⟩ (by simp) [] rfl (by simp) ?_
  rintro i nx g ⟨hi, hd⟩ - -
  simp
  refine split2_i (fun h3 => ?_) (fun h3 => ?_) <;> simp [h3]
  · simp at h3
    have h3' : i < b.kids.length := by omega
    simp [h3, h3']
    refine callP_i (ih _ (List.getElem_mem _) _) ?_
    simp
    refine ⟨by kernel_rfl, ?_⟩
    have he := take_eq_succ h3 h3' hd
    refine split2_i (fun h4 => ?_) (fun h4 => ?_) <;> simp [h4]
    · simp at h4
      exact againK_i (i + 1) _ ⟨h3, by rw [he]; exact h4⟩ (by omega) (by simp [wrap64_i h3 hlen]) rfl (by simp)
    · clear ih
      simp at h4
      intro e
      subst e
      exact h4 rfl
  · clear ih
    simp at h3
    have : i = a.kids.length := by omega
    subst this
    have hk : a.kids = b.kids := by
      have := hd
      rw [List.take_length, hl, List.take_length] at this
      exact this
    simp_all [Nd.ext_iff a b]
end Go.Proofs.AL
namespace Go.Proofs.AL
open Go Go.RowKit Go.Proofs.Try
set_option maxRecDepth 100000
def Nd.forever (x : Nd) : Bool := x.kind == 10 && decide (0 < x.kids.length) && (x.kids.getD 0 default).kind == 14 && (x.kids.getD 0 default).n == 1
theorem forever_ok (x : Nd) : ACall cx 24 [.agg x.cells] (.bool x.forever) none := by
  refine ACall.wpc (C := cx) T.func_24 (by kernel_rfl) rfl (by rfl) ?_
  simp [f24]
  repeat' (refine split2_i (fun h => ?_) (fun h => ?_) <;> simp [h] <;> (try simp at h) <;> (try simp [*]))
  all_goals simp_all [Nd.forever]
mutual
def Nd.ends : Nd → Bool
  | .mk k t y n f o a ta l => if k == 11 then false else if (Nd.mk k t y n f o a ta l).forever then false else if k == 9 && (l.length : Int) == 3 then Nd.endsAt l 1 || Nd.endsAt l 2 else if k != 5 then true else Nd.endsAll l
def Nd.endsAt : List Nd → Nat → Bool
  | [], _ => false
  | x :: _, 0 => x.ends
  | _ :: l, i + 1 => Nd.endsAt l i
def Nd.endsAll : List Nd → Bool
  | [] => true
  | x :: l => x.ends && Nd.endsAll l
end
theorem Nd.ends_eq (x : Nd) : x.ends = if x.kind == 11 then false else if x.forever then false else if x.kind == 9 && (x.kids.length : Int) == 3 then Nd.endsAt x.kids 1 || Nd.endsAt x.kids 2 else if x.kind != 5 then true else Nd.endsAll x.kids := by
  cases x; simp [Nd.ends]
theorem Nd.endsAt_eq : ∀ {l : List Nd} {i : Nat} (h : i < l.length), Nd.endsAt l i = l[i].ends
  | x :: l, 0, _ => by simp [Nd.endsAt]
  | x :: l, i + 1, h => by simp only [Nd.endsAt]; rw [Nd.endsAt_eq (by simpa using h)]; simp
theorem Nd.endsAll_append : ∀ (a b : List Nd), Nd.endsAll (a ++ b) = (Nd.endsAll a && Nd.endsAll b)
  | [], b => by simp [Nd.endsAll]
  | x :: a, b => by simp [Nd.endsAll, Nd.endsAll_append a b, Bool.and_assoc]
theorem Nd.endsAll_take {l : List Nd} {i : Nat} (h : i < l.length) : Nd.endsAll (l.take (i + 1)) = (Nd.endsAll (l.take i) && l[i].ends) := by
  rw [List.take_succ_eq_append_getElem h, Nd.endsAll_append]; simp [Nd.endsAll]
theorem Nd.endsAll_drop {l : List Nd} {i : Nat} (h : i < l.length) : Nd.endsAll (l.drop i) = (l[i].ends && Nd.endsAll (l.drop (i + 1))) := by
  rw [List.drop_eq_getElem_cons h]; simp [Nd.endsAll]
theorem ends_ok (x : Nd) : ACall cx 11 [.agg x.cells] (.bool x.ends) none := by
  induction x using Nd.ind with | _ x ih
  refine ACall.wpl (C := cx) T.func_11 (by kernel_rfl) rfl (by rfl) (fun hL => ?_)
  have hlen := Nd.lens (x := x) (t := 0) hL (by simp)
  clear hL
  simp [f11]
  refine split2_i (fun h1 => ?_) (fun h1 => ?_) <;> simp [h1]
  · simp_all [Nd.ends_eq x]
  refine callP_i (forever_ok ..) ?_
  simp
  refine split2_i (fun h2 => ?_) (fun h2 => ?_) <;> simp [h1, h2]
  · simp_all [Nd.ends_eq x]
  refine split2_i (fun h3 => ?_) (fun h3 => ?_) <;> simp [h3]
  refine split2_i (fun h4 => ?_) (fun h4 => ?_) <;> simp [h4]
  · have h5 : x.kids.length = 3 := by simp at h4; omega
    simp [h5]
    refine callP_i (ih _ (List.getElem_mem _)) ?_
    simp
    refine split2_i (fun h6 => ?_) (fun h6 => ?_) <;> simp [h6]
    · simp_all [Nd.ends_eq x, Nd.endsAt_eq]
    · simp [h5]
      refine callP_i (ih _ (List.getElem_mem _)) ?_
      clear ih
      simp at h1 h3
      simp [Nd.ends_eq x, Nd.endsAt_eq, *]
  all_goals (refine split2_i (fun h5 => ?_) (fun h5 => ?_) <;> simp [h5])
  any_goals (simp_all [Nd.ends_eq x]; done)
  all_goals
    refine loopK [1, 39, 40] (fun i _ => i ≤ x.kids.length ∧ Nd.endsAll (x.kids.drop i) = Nd.endsAll x.kids) (fun i => [(41, .int .i64 (i : Nat))]) (fun _ => [x.cells]) (fun _ => []) (fun i => x.kids.length - i) 0 ⟨by simp, by simp⟩ (by simp) [] rfl (by simp) ?_
    rintro i nx g ⟨hi, hd⟩ - -
    simp
    refine split2_i (fun h6 => ?_) (fun h6 => ?_) <;> simp [h6]
    · simp at h6
      simp [h6]
      refine callP_i (ih _ (List.getElem_mem _)) ?_
      simp
      rw [Nd.endsAll_drop h6] at hd
      refine split2_i (fun h7 => ?_) (fun h7 => ?_) <;> simp [h7]
      rotate_left
      · simp [h7] at hd
        simp_all [Nd.ends_eq x]
      · simp [h7] at hd
        exact againK_i (i + 1) _ ⟨h6, hd⟩ (by omega) (by simp [wrap64_i h6 hlen]) rfl (by simp)
    · simp at h6
      have : i = x.kids.length := by omega
      subst this
      simp_all [Nd.ends_eq x, Nd.endsAll]
end Go.Proofs.AL
namespace Go.Proofs.AL
open Go Go.RowKit Go.Proofs.Try
set_option maxRecDepth 100000
theorem refEnds_ok (x : Nd) : ACall cx 12 [.agg x.cells] (.bool x.ends) none := by
  induction x using Nd.ind with | _ x ih
  refine ACall.wpl (C := cx) T.func_12 (by kernel_rfl) rfl (by rfl) (fun hL => ?_)
  have hlen := Nd.lens (x := x) (t := 0) hL (by simp)
  clear hL
  simp [f12]
  refine split2_i (fun h1 => ?_) (fun h1 => ?_) <;> simp [h1]
  · simp_all [Nd.ends_eq x]
  refine split2_i (fun h2 => ?_) (fun h2 => ?_) <;> simp [h2]
  · by_cases h0 : x.kids.length = 0
    · clear ih; simp at h1 h2
      simp [Nd.ends_eq x, Nd.forever, *]
    · have h0' : ((x.kids.length : Int) == 0) = false := by simp; intro h; simp [h] at h0
      have h0'' : 0 < x.kids.length := by omega
      simp [h0', h0'']
      refine split2_i (fun h => ?_) (fun h => ?_) <;> simp [h, h0'']
      all_goals (clear ih; simp at h1 h2 h; by_cases hn : x.kids[0].n = 1 <;> simp [Nd.ends_eq x, Nd.forever, *])
  refine split2_i (fun h3 => ?_) (fun h3 => ?_) <;> simp [h3]
  · refine split2_i (fun h4 => ?_) (fun h4 => ?_) <;> simp [h4]
    · clear ih; simp at h1 h2 h3 h4
      simp [Nd.ends_eq x, *, Nd.forever]
    · have h5 : x.kids.length = 3 := by simp at h4; omega
      simp [h5]
      refine callP_i (ih _ (List.getElem_mem _)) ?_
      simp [h5]
      refine callP_i (ih _ (List.getElem_mem _)) ?_
      simp
      clear ih
      refine split2_i (fun h6 => ?_) (fun h6 => ?_) <;> simp [h6]
      all_goals simp at h6 h1 h2 h3
      all_goals simp [Nd.ends_eq x, *, Nd.endsAt_eq, Nd.forever]
  refine split2_i (fun h4 => ?_) (fun h4 => ?_) <;> simp [h4]
  · refine loopK [1] (fun i _ => i ≤ x.kids.length ∧ Nd.endsAll (x.kids.drop i) = Nd.endsAll x.kids) (fun i => [(5, .int .i64 (i : Nat))]) (fun _ => [x.cells]) (fun _ => []) (fun i => x.kids.length - i) 0 ⟨by simp, by simp⟩ (by simp) [] rfl (by simp) ?_
    rintro i nx g ⟨hi, hd⟩ - -
    simp
    refine split2_i (fun h6 => ?_) (fun h6 => ?_) <;> simp [h6]
    · simp at h6
      simp [h6]
      refine callP_i (ih _ (List.getElem_mem _)) ?_
      simp
      rw [Nd.endsAll_drop h6] at hd
      refine split2_i (fun h7 => ?_) (fun h7 => ?_) <;> simp [h7]
      · simp [h7] at hd
        exact againK_i (i + 1) _ ⟨h6, hd⟩ (by omega) (by simp [wrap64_i h6 hlen]) rfl (by simp)
      · clear ih
        simp [h7] at hd
        simp at h1 h2 h3 h4
        simp [Nd.ends_eq x, Nd.forever, *]
    · simp at h6
      have : i = x.kids.length := by omega
      subst this
      clear ih
      simp [Nd.endsAll] at hd
      simp at h1 h2 h3 h4
      simp [Nd.ends_eq x, Nd.forever, *]
  · clear ih
    simp at h1 h2 h3 h4
    simp [Nd.ends_eq x, Nd.forever, *]
theorem steps_ok (l : List Nd) : ACall cx 23 [.sl 0 (Nd.rows l)] (.fn (.func 38) [] [.cptr [.sl 0 (Nd.rows l)]]) none := by
  refine ACall.wpc (C := cx) T.func_23 (by kernel_rfl) rfl (by rfl) ?_
  simp [f23]
def stepVs (l : List Nd) : List (List AV) := l.mapIdx fun i x => [.bool (Nd.endsAll (l.take i)), .agg x.cells]
@[simp] theorem stepVs_length (l : List Nd) : (stepVs l).length = l.length := by simp [stepVs]
@[simp] theorem stepVs_get (l : List Nd) (i : Nat) (h : i < (stepVs l).length) : (stepVs l)[i] = [.bool (Nd.endsAll (l.take i)), .agg (l[i]'(by simpa using h)).cells] := by simp [stepVs]
theorem stepVs_all (l : List Nd) : ∀ v ∈ stepVs l, 2 = v.length := by
  intro v hv
  obtain ⟨i, hi, rfl⟩ := List.mem_iff_getElem.1 hv
  simp
theorem steps_seq (l : List Nd) : IsSeq cx 38 [.cptr [.sl 0 (Nd.rows l)]] (stepVs l) := by
  refine ⟨⟨f38, _, T.func_38, by kernel_rfl, rfl⟩, fun y k0 J Stop lp hY c lv nx N m hc hJ => ?_⟩
  refine JCall.wpc (C := cx) T.func_38 (by kernel_rfl) rfl (by rfl) (fun hL => ?_)
  clear hL
  simp [f38]
  refine loopC_lens (fun hL => ?_)
  have hlen : (l.length : Int) ≤ 9223372036854775807 := by simpa using hL.tm 6 0 (Nd.rows l) (by simp)
  clear hL
  refine loopK [0, 6, 7] (fun (p : Nat × Obs × Lvs) nx => p.1 ≤ l.length ∧ p.2.1.length = k0 ∧ J p.1 p.2.1 p.2.2 nx lp) (fun p => [(8, .int .i64 (p.1 : Nat)), (3, .bool (Nd.endsAll (l.take p.1)))]) (fun p => p.2.1) (fun p => p.2.2) (fun p => l.length - p.1)
    (0, c, lv) ⟨by simp, hc, hJ⟩ (by simp [Nd.endsAll]) [] (by simp) (by simp) ?_
  rintro ⟨i, c1, lv1⟩ nx1 r1 ⟨hi, hc1, hJ1⟩ - -
  dsimp only at hi hc1 hJ1
  simp
  refine split2_i (fun h1 => ?_) (fun h1 => ?_) <;> simp [h1]
  · simp at h1
    simp [h1]
    have hy := hY i (by simpa using h1) c1 (r1 ++ [l[i].cells]) lv1 nx1
    rw [stepVs_get] at hy
    refine yieldP_i (hy _ _ hc1 hJ1) ?_
    rintro b s2 ⟨c2, r2, lv2, nx2, lp2, hc2, e1, e2, e3, e4, hb⟩
    rw [S_ret e1 e2 e3 e4]
    rcases hb with ⟨rfl, rfl, hJ2⟩ | ⟨rfl, hS⟩
    · have hcc : c1.length = c2.length := by omega
      simp only [hcc]
      simp
      refine split2_i (fun h2 => ?_) (fun h2 => ?_) <;> simp [h2]
      · refine callP_i (ends_ok ..) ?_
        simp
        exact againK_i (i + 1, c2, lv2) _ ⟨h1, hc2, hJ2⟩ (by dsimp only; omega) (by simp [wrap64_i h1 hlen, Nd.endsAll_take h1, h2]) rfl (by simp)
      · exact againK_i (i + 1, c2, lv2) _ ⟨h1, hc2, hJ2⟩ (by dsimp only; omega) (by simp [wrap64_i h1 hlen, Nd.endsAll_take h1, h2]) rfl (by simp)
    · simp
      exact ⟨c2, _, lv2, nx2, lp2, hc2, rfl, rfl, rfl, rfl, .inr hS⟩
  · simp at h1
    have : i = l.length := by omega
    subst this
    simp
    exact ⟨c1, _, lv1, nx1, lp, hc1, rfl, rfl, rfl, rfl, .inl ⟨rfl, hJ1⟩⟩
mutual
def Nd.reached : Nd → Int
  | .mk k _ _ _ _ _ _ _ l => if k < 5 then 0 else if 12 < k then 0 else Nd.reachKids (k == 5) l true 1
def Nd.reachKids (blk : Bool) : List Nd → Bool → Int → Int
  | [], _, acc => acc
  | x :: l, up, acc => if blk && !up then acc else Nd.reachKids blk l (up && x.ends) (IntKind.i64.wrap (acc + x.reached))
end
theorem Nd.reached_eq (x : Nd) : x.reached = if x.kind < 5 then 0 else if 12 < x.kind then 0 else Nd.reachKids (x.kind == 5) x.kids true 1 := by cases x; rw [Nd.reached]; rfl
theorem Nd.reachKids_drop {b : Bool} {l : List Nd} {i : Nat} {up : Bool} {acc : Int} (h : i < l.length) : Nd.reachKids b (l.drop i) up acc = if b && !up then acc else Nd.reachKids b (l.drop (i + 1)) (up && l[i].ends) (IntKind.i64.wrap (acc + l[i].reached)) := by
  rw [List.drop_eq_getElem_cons h]; simp [Nd.reachKids]
theorem reached_ok (x : Nd) : ACall cx 14 [.agg x.cells] (.int .i64 x.reached) none := by
  induction x using Nd.ind with | _ x ih
  refine ACall.wpc (C := cx) T.func_14 (by kernel_rfl) rfl (by rfl) ?_
  simp [f14]
  refine split2_i (fun h1 => ?_) (fun h1 => ?_) <;> simp [h1]
  · simp_all [Nd.reached_eq x]
  refine split2_i (fun h2 => ?_) (fun h2 => ?_) <;> simp [h2]
  · simp_all [Nd.reached_eq x]
  refine callP_i (steps_ok _) ?_
  simp
  refine range_seq (stepVs x.kids) (fun i c lv nx => ∃ acc, c = [x.cells, [.int .i64 acc]] ∧ lv = [] ∧ Nd.reachKids (x.kind == 5) x.kids true 1 = Nd.reachKids (x.kind == 5) (x.kids.drop i) (Nd.endsAll (x.kids.take i)) acc)
    (by simp) (by simp) (steps_seq _) (stepVs_all _) (by simp) ⟨1, rfl, rfl, by simp [Nd.endsAll]⟩ ?_ ?_
  · rintro l lp1 lp2 i hi c rest lv nx - ⟨acc, rfl, rfl, he⟩ -
    have hi' : i < x.kids.length := by simpa using hi
    rw [Nd.reachKids_drop hi'] at he
    rw [stepVs_get]
    simp
    refine split2_i (fun h3 => ?_) (fun h3 => ?_) <;> simp [h3]
    refine split2_i (fun h4 => ?_) (fun h4 => ?_) <;> simp [h4]
    rotate_left
    · refine rOut_i [x.cells, [.int .i64 acc]] _ rfl rfl (fun g => ?_)
      simp [h3, h4] at he
      simp_all [Nd.reached_eq x]
    all_goals
      refine callP_i (ih _ (List.getElem_mem _)) ?_
      simp
      refine ⟨by kernel_rfl, ?_⟩
      exact rNext_i [x.cells, [.int .i64 (IntKind.i64.wrap (acc + x.kids[i].reached))]] _ [] rfl rfl rfl ⟨_, rfl, rfl, by simp_all [Nd.endsAll_take hi']⟩
  · rintro c rest lv nx - ⟨acc, rfl, rfl, he⟩
    simp [Nd.reachKids] at he
    simp
    clear ih
    simp at h1 h2
    simp [Nd.reached_eq x, *]
    omega
end Go.Proofs.AL
namespace Go.Proofs.AL
open Go Go.RowKit Go.Proofs.Try
set_option maxRecDepth 100000
def Nd.stmt (x : Nd) : Bool := decide (5 ≤ x.kind) && decide (x.kind ≤ 12)
theorem statement_ok (x : Nd) : ACall cx 25 [.agg x.cells] (.bool x.stmt) none := by
  refine ACall.wpc (C := cx) T.func_25 (by kernel_rfl) rfl (by rfl) ?_
  simp [f25]
  refine split2_i (fun h => ?_) (fun h => ?_) <;> simp [h]
  all_goals (simp_all [Nd.stmt] <;> omega)
mutual
def Nd.reached2 : Nd → Int
  | .mk k _ _ _ _ _ _ _ l => if k < 5 then 0 else if 12 < k then 0 else Nd.reachKids2 (k == 5) l 1
def Nd.reachKids2 (blk : Bool) : List Nd → Int → Int
  | [], acc => acc
  | x :: l, acc => if blk && !x.ends then IntKind.i64.wrap (acc + x.reached2) else Nd.reachKids2 blk l (IntKind.i64.wrap (acc + x.reached2))
end
theorem Nd.reached2_eq (x : Nd) : x.reached2 = if x.kind < 5 then 0 else if 12 < x.kind then 0 else Nd.reachKids2 (x.kind == 5) x.kids 1 := by cases x; rw [Nd.reached2]; rfl
theorem Nd.reachKids_down (l : List Nd) (acc : Int) : Nd.reachKids true l false acc = acc := by cases l <;> simp [Nd.reachKids]
theorem Nd.reachKids_skip {b : Bool} (hb : b = false) : ∀ (l : List Nd) (up up' : Bool) (acc : Int), Nd.reachKids b l up acc = Nd.reachKids b l up' acc
  | [], _, _, _ => by simp [Nd.reachKids]
  | x :: l, up, up', acc => by subst hb; simp only [Nd.reachKids, Bool.false_and]; exact Nd.reachKids_skip rfl l _ _ _
mutual
theorem Nd.reached2_same : ∀ x : Nd, x.reached2 = x.reached
  | .mk k t y n f o a ta l => by rw [Nd.reached2, Nd.reached, Nd.reachKids2_same (k == 5) l 1]
theorem Nd.reachKids2_same (b : Bool) : ∀ (l : List Nd) (acc : Int), Nd.reachKids2 b l acc = Nd.reachKids b l true acc
  | [], acc => by simp [Nd.reachKids2, Nd.reachKids]
  | x :: l, acc => by
    have h1 := Nd.reached2_same x
    simp only [Nd.reachKids2, Nd.reachKids, h1, Bool.not_true, Bool.and_false, Bool.true_and, Nd.reachKids2_same b l]
    cases b with
    | false => simp; exact Nd.reachKids_skip rfl l _ _ _
    | true =>
      cases x.ends with
      | true => simp
      | false => simp [Nd.reachKids_down]
end
theorem Nd.reachKids2_drop {b : Bool} {l : List Nd} {i : Nat} {acc : Int} (h : i < l.length) : Nd.reachKids2 b (l.drop i) acc = if b && !l[i].ends then IntKind.i64.wrap (acc + l[i].reached2) else Nd.reachKids2 b (l.drop (i + 1)) (IntKind.i64.wrap (acc + l[i].reached2)) := by
  rw [List.drop_eq_getElem_cons h]; simp [Nd.reachKids2]
theorem refReached_ok (x : Nd) : ACall cx 15 [.agg x.cells] (.int .i64 x.reached2) none := by
  induction x using Nd.ind with | _ x ih
  refine ACall.wpl (C := cx) T.func_15 (by kernel_rfl) rfl (by rfl) (fun hL => ?_)
  have hlen := Nd.lens (x := x) (t := 0) hL (by simp)
  clear hL
  simp [f15]
  refine callP_i (statement_ok _) ?_
  simp
  refine split2_i (fun h1 => ?_) (fun h1 => ?_) <;> simp [h1]
  rotate_left
  · clear ih
    simp only [Nd.stmt] at h1
    rw [Nd.reached2_eq]
    by_cases h2 : x.kind < 5
    · simp [h2]
    · have : ¬ x.kind ≤ 12 := by simp at h1; exact fun h => by have := h1 (by omega); omega
      simp [h2]; intro h3; omega
  refine loopK [1] (fun (p : Nat × Int) _ => p.1 ≤ x.kids.length ∧ Nd.reachKids2 (x.kind == 5) (x.kids.drop p.1) p.2 = Nd.reachKids2 (x.kind == 5) x.kids 1) (fun p => [(4, .int .i64 (p.1 : Nat)), (3, .int .i64 p.2)]) (fun _ => [x.cells]) (fun _ => []) (fun p => x.kids.length - p.1) (0, 1) ⟨by simp, by simp⟩ (by simp) [] rfl (by simp) ?_
  rintro ⟨i, acc⟩ nx g ⟨hi, hd⟩ - -
  dsimp only at hi hd
  simp
  refine split2_i (fun h3 => ?_) (fun h3 => ?_) <;> simp [h3]
  · simp at h3
    simp [h3]
    refine callP_i (ih _ (List.getElem_mem _)) ?_
    simp [h3]
    refine callP_i (refEnds_ok _) ?_
    simp
    rw [Nd.reachKids2_drop h3] at hd
    have fin : x.reached2 = Nd.reachKids2 (x.kind == 5) x.kids 1 := by
      clear ih
      simp [Nd.stmt] at h1
      rw [Nd.reached2_eq, if_neg (by omega), if_neg (by omega)]
    refine split2_i (fun h4 => ?_) (fun h4 => ?_) <;> simp [h4]
    · refine split2_i (fun h5 => ?_) (fun h5 => ?_) <;> simp [h5]
      · simp [h4, h5] at hd
        exact againK_i (i + 1, IntKind.i64.wrap (acc + x.kids[i].reached2)) _ ⟨h3, hd⟩ (by dsimp only; omega) (by simp [wrap64_i h3 hlen]) rfl (by simp)
      · simp [h4, h5] at hd
        rw [fin, h4, ← hd]
    · simp [h4] at hd
      exact againK_i (i + 1, IntKind.i64.wrap (acc + x.kids[i].reached2)) _ ⟨h3, hd⟩ (by dsimp only; omega) (by simp [wrap64_i h3 hlen]) rfl (by simp)
  · simp at h3
    have : i = x.kids.length := by omega
    subst this
    clear ih
    simp [Nd.reachKids2] at hd
    simp [Nd.stmt] at h1
    rw [Nd.reached2_eq, if_neg (by omega), if_neg (by omega)]
    exact hd.symm
mutual
def Nd.dead : Nd → Option Nd
  | .mk k _ _ _ _ _ _ _ l => Nd.deadL (k == 5) l true
def Nd.deadL (blk : Bool) : List Nd → Bool → Option Nd
  | [], _ => none
  | x :: l, up => if blk && !up then some x else match x.dead with
    | some d => some d
    | none => Nd.deadL blk l (up && x.ends)
end
theorem Nd.dead_eq (x : Nd) : x.dead = Nd.deadL (x.kind == 5) x.kids true := by cases x; rw [Nd.dead]; rfl
theorem Nd.deadL_drop {b : Bool} {l : List Nd} {i : Nat} {up : Bool} (h : i < l.length) : Nd.deadL b (l.drop i) up = if b && !up then some l[i] else match l[i].dead with | some d => some d | none => Nd.deadL b (l.drop (i + 1)) (up && l[i].ends) := by
  rw [List.drop_eq_getElem_cons h]; simp [Nd.deadL]
def deadAV (o : Option Nd) : AV := .tup [.agg (o.getD default).cells, .bool o.isSome]
/-- A node that holds nothing yet. -/
def zeroNd (c : List AV) : Prop := c.length = 9 ∧ c.map er1 = (default : Nd).cells
theorem refDead_ok (x : Nd) : ACall cx 10 [.agg x.cells] (deadAV x.dead) none := by
  induction x using Nd.ind with | _ x ih
  refine ACall.wpl (C := cx) T.func_10 (by kernel_rfl) rfl (by rfl) (fun hL => ?_)
  have hlen := Nd.lens (x := x) (t := 0) hL (by simp)
  clear hL
  simp [f10]
  refine loopK [1, 2] (fun (p : Nat × Bool) _ => p.1 ≤ x.kids.length ∧ Nd.deadL (x.kind == 5) (x.kids.drop p.1) (!p.2) = x.dead) (fun p => [(5, .int .i64 (p.1 : Nat)), (4, .bool p.2)]) (fun _ => [x.cells, [.int .i64 0, .str .empty, .str .empty, .int .i64 0, .int .i64 0, .int .i64 0, .int .i64 0, .int .i64 0, .sl 1 []]]) (fun _ => []) (fun p => x.kids.length - p.1) (0, false) ⟨by simp, by simp [Nd.dead_eq]⟩ (by simp) [] rfl (by simp) ?_
  rintro ⟨i, ended⟩ nx g ⟨hi, hd⟩ - -
  dsimp only at hi hd
  simp
  refine split2_i (fun h3 => ?_) (fun h3 => ?_) <;> simp [h3]
  · simp at h3
    rw [Nd.deadL_drop h3] at hd
    refine split2_i (fun h4 => ?_) (fun h4 => ?_) <;> simp [h4]
    · refine split2_i (fun h5 => ?_) (fun h5 => ?_) <;> simp [h5, h3]
      · clear ih
        simp [h4, h5] at hd
        simp [← hd, deadAV, pu]
      · refine callP_i (ih _ (List.getElem_mem _)) ?_
        cases hdd : x.kids[i].dead with
        | some d =>
          clear ih
          simp [h4, h5, hdd] at hd
          simp [deadAV, ← hd, pu]
        | none =>
          simp [deadAV, h3]
          refine callP_i (refEnds_ok _) ?_
          simp [h4, h5, hdd] at hd
          simp [h5]
          exact againK_i (i + 1, !x.kids[i].ends) _ ⟨h3, by simpa using hd⟩ (by dsimp only; omega) (by simp [wrap64_i h3 hlen]) rfl (by simp)
    · simp [h3]
      refine callP_i (ih _ (List.getElem_mem _)) ?_
      cases hdd : x.kids[i].dead with
      | some d =>
        clear ih
        simp [h4, hdd] at hd
        simp [deadAV, ← hd, pu]
      | none =>
        simp [deadAV, h3]
        refine callP_i (refEnds_ok _) ?_
        simp [h4, hdd] at hd
        simp
        refine split2_i (fun h5 => ?_) (fun h5 => ?_) <;> simp [h5]
        · exact againK_i (i + 1, true) _ ⟨h3, by simp [h5] at hd; simpa using hd⟩ (by dsimp only; omega) (by simp [wrap64_i h3 hlen]) rfl (by simp)
        · exact againK_i (i + 1, !x.kids[i].ends) _ ⟨h3, by simp [h5] at hd; simpa using hd⟩ (by dsimp only; omega) (by simp [wrap64_i h3 hlen]) rfl (by simp)
  · simp at h3
    have : i = x.kids.length := by omega
    subst this
    clear ih
    simp [Nd.deadL] at hd
    simp [← hd, deadAV, pu]
theorem dead_ok (x : Nd) : ACall cx 9 [.agg x.cells] (deadAV x.dead) none := by
  induction x using Nd.ind with | _ x ih
  refine ACall.wpc (C := cx) T.func_9 (by kernel_rfl) rfl (by rfl) ?_
  simp [f9]
  refine callP_i (steps_ok _) ?_
  simp
  have hz : zeroNd [.int .i64 0, .str .empty, .str .empty, .int .i64 0, .int .i64 0, .int .i64 0, .int .i64 0, .int .i64 0, .sl 1 []] := ⟨rfl, rfl⟩
  have hz0 : zeroNd (default : Nd).cells := ⟨by simp, by simp⟩
  refine range_seq (stepVs x.kids) (fun i c lv nx => ∃ fc, c = [x.cells, [.int .i64 0, .str .empty, .str .empty, .int .i64 0, .int .i64 0, .int .i64 0, .int .i64 0, .int .i64 0, .sl 1 []], fc, [.bool false]] ∧ lv = [] ∧ zeroNd fc ∧ Nd.deadL (x.kind == 5) (x.kids.drop i) (Nd.endsAll (x.kids.take i)) = x.dead)
    (by simp) (by simp) (steps_seq _) (stepVs_all _) (by simp) ⟨_, rfl, rfl, hz, by simp [Nd.endsAll, Nd.dead_eq]⟩ ?_ ?_
  · rintro l lp1 lp2 i hi c rest lv nx - ⟨fc, rfl, rfl, ⟨hf1, hf2⟩, he⟩ -
    have hi' : i < x.kids.length := by simpa using hi
    have hf3 : fc.drop 9 = [] := List.drop_eq_nil_of_le (by omega)
    rw [Nd.deadL_drop hi'] at he
    rw [stepVs_get]
    simp
    refine split2_i (fun h3 => ?_) (fun h3 => ?_) <;> simp [h3]
    refine split2_i (fun h4 => ?_) (fun h4 => ?_) <;> simp [h4]
    rotate_left
    · simp [hf1, hf3]
      refine rOut_i [x.cells, [.int .i64 0, .str .empty, .str .empty, .int .i64 0, .int .i64 0, .int .i64 0, .int .i64 0, .int .i64 0, .sl 1 []], x.kids[i].cells, [.bool true]] _ rfl rfl (fun g => ?_)
      simp [h3, h4] at he
      simp
      refine ⟨by kernel_rfl, ?_⟩
      simp [← he, deadAV, pu]
    all_goals
      refine callP_i (ih _ (List.getElem_mem _)) ?_
      cases hdd : x.kids[i].dead with
      | some d =>
        simp [deadAV, hf1, hf3]
        refine rOut_i [x.cells, [.int .i64 0, .str .empty, .str .empty, .int .i64 0, .int .i64 0, .int .i64 0, .int .i64 0, .int .i64 0, .sl 1 []], d.cells, [.bool true]] _ rfl rfl (fun g => ?_)
        simp [h3, hdd] at he
        try simp [h4] at he
        simp
        refine ⟨by kernel_rfl, ?_⟩
        simp [← he, deadAV, pu]
      | none =>
        simp [deadAV, hf1, hf3]
        simp [h3, hdd] at he
        try simp [h4] at he
        exact rNext_i [x.cells, [.int .i64 0, .str .empty, .str .empty, .int .i64 0, .int .i64 0, .int .i64 0, .int .i64 0, .int .i64 0, .sl 1 []], (default : Nd).cells, [.bool false]] _ [] rfl rfl rfl ⟨_, rfl, rfl, hz0, by simp [Nd.endsAll_take hi', *]⟩
  · rintro c rest lv nx - ⟨fc, rfl, rfl, ⟨hf1, hf2⟩, he⟩
    simp [Nd.deadL] at he
    simp [hf1]
    refine ⟨by kernel_rfl, ?_⟩
    have hf4 : ∀ s, List.map (frz1 s ∘ er1) fc = (default : Nd).cells := fun s => by rw [← List.map_map, hf2]; simp
    simp [← he, deadAV, pu, hf2, hf4, List.take_of_length_le (Nat.le_of_eq hf1)]
end Go.Proofs.AL
namespace Go.Proofs.AL
open Go Go.RowKit Go.Proofs.Try
set_option maxRecDepth 100000
def void : ByteArray := ⟨#[118, 111, 105, 100]⟩
def Nd.meth (x : Nd) : Option (Int × Int) :=
  if x.kids.length = 0 then none else match (x.kids.getD (x.kids.length - 1) default).dead with
    | some d => some (191, d.from_)
    | none => if x.type ≠ void ∧ (x.kids.getD (x.kids.length - 1) default).ends = true then some (190, x.at_) else none
def methAV : Option (Int × Int) → AV
  | some (c, a) => .tup [.int .i64 c, .int .i64 a]
  | none => .tup [.int .i64 0, .int .i64 0]
theorem method_ok (x : Nd) : ACall cx 30 [.agg x.cells] (methAV x.meth) none := by
  refine ACall.wpl (C := cx) T.func_30 (by kernel_rfl) rfl (by rfl) (fun hL => ?_)
  have hlen := Nd.lens (x := x) (t := 0) hL (by simp)
  clear hL
  simp [f30]
  refine split2_i (fun h1 => ?_) (fun h1 => ?_) <;> simp [h1]
  · simp at h1; simp [Nd.meth, h1, methAV, pu]
  have h2 : 0 < x.kids.length := by simp at h1; exact List.length_pos_iff.2 (by simpa using h1)
  have h3 : IntKind.i64.wrap ((x.kids.length : Int) - 1) = ((x.kids.length - 1 : Nat) : Int) := by rw [wrap64_in (by omega) (by omega)]; omega
  have h4 : x.kids.length - 1 < x.kids.length := by omega
  have h5 : ¬ x.kids.length = 0 := by omega
  simp [h3, h4]
  refine callP_i (dead_ok _) ?_
  cases hd : (x.kids[x.kids.length - 1]).dead with
  | some d =>
    simp [deadAV]
    refine ⟨by kernel_rfl, ?_⟩
    simp [Nd.meth, h4, h5, hd, methAV, pu]
  | none =>
    simp [deadAV]
    refine split2_i (fun h6 => ?_) (fun h6 => ?_) <;> simp [h6]
    · simp at h6
      simp [Nd.meth, h4, h5, hd, methAV, pu, void, h6]
    · refine callP_i (ends_ok _) ?_
      simp at h6
      simp
      refine split2_i (fun h7 => ?_) (fun h7 => ?_) <;> simp [h7]
      · refine ⟨by kernel_rfl, ?_⟩
        simp [Nd.meth, h4, h5, hd, methAV, pu, void, h6, h7]
      · simp [Nd.meth, h4, h5, hd, methAV, pu, void, h6, h7]
/-- Files, as the program has them. -/
def fileRows (fs : List (List Nd)) : List (List AV) := fs.map fun l => [.sl 0 (Nd.rows l)]
@[simp] theorem fileRows_length (fs : List (List Nd)) : (fileRows fs).length = fs.length := by simp [fileRows]
@[simp] theorem fileRows_all (fs : List (List Nd)) : (∀ el ∈ fileRows fs, el.length = 1) = True := by simp [fileRows]
@[simp high] theorem fileRows_idx {tk : Nat} {fs : List (List Nd)} {k : IntKind} {n : Int} : idxAddr prog 32 (.sl tk (fileRows fs)) (.int k n) = if 0 ≤ n ∧ n < fs.length then some (.cptr [.sl 0 (Nd.rows (fs.getD n.toNat []))]) else none := by
  simp only [idxAddr, T.elT_32, T.szOf_22, fileRows_length, fileRows_all, if_true]
  by_cases h : 0 ≤ n ∧ n < fs.length
  · rw [if_pos h, if_pos h]
    have : n.toNat < fs.length := by omega
    simp [fileRows, this]
  · rw [if_neg h, if_neg h]
@[simp] theorem fileRows_pu (fs : List (List Nd)) : puLL (fileRows fs) = true := by
  induction fs with
  | nil => rfl
  | cons l fs ih =>
    show puLL ([.sl 0 (Nd.rows l)] :: fileRows fs) = true
    simp [puLL, puL, pu, ih]
def chkK (f : Int) (c : Nd) : List Nd → Option (Int × Int × Int)
  | [] => none
  | k :: l => (if c.kind = 1 ∧ k.kind = 3 then k.meth.map fun q => (q.1, f, q.2) else none).or (chkK f c l)
def chkC (f : Int) : List Nd → Option (Int × Int × Int)
  | [] => none
  | c :: l => (chkK f c c.kids).or (chkC f l)
def chkF : List (List Nd) → Int → Option (Int × Int × Int)
  | [], _ => none
  | l :: fs, f => (chkC f l).or (chkF fs (f + 1))
theorem chkK_drop {f : Int} {c : Nd} {l : List Nd} {i : Nat} (h : i < l.length) : chkK f c (l.drop i) = (if c.kind = 1 ∧ l[i].kind = 3 then l[i].meth.map fun q => (q.1, f, q.2) else none).or (chkK f c (l.drop (i + 1))) := by
  rw [List.drop_eq_getElem_cons h]; rfl
theorem chkC_drop {f : Int} {l : List Nd} {i : Nat} (h : i < l.length) : chkC f (l.drop i) = (chkK f l[i] l[i].kids).or (chkC f (l.drop (i + 1))) := by
  rw [List.drop_eq_getElem_cons h]; rfl
theorem chkF_drop {fs : List (List Nd)} {i : Nat} {f : Int} (h : i < fs.length) : chkF (fs.drop i) f = (chkC f fs[i]).or (chkF (fs.drop (i + 1)) (f + 1)) := by
  rw [List.drop_eq_getElem_cons h]; rfl
def chkAV : Option (Int × Int × Int) → AV
  | some (c, f, a) => .agg [.int .i64 c, .int .i64 f, .int .i64 a]
  | none => .agg [.int .i64 0, .int .i64 0, .int .i64 0]
theorem Nd.meth_code {x : Nd} {c a : Int} (h : x.meth = some (c, a)) : (c != 0) = true := by
  unfold Nd.meth at h
  split at h
  · cases h
  · split at h
    · cases h; rfl
    · split at h <;> cases h; rfl
theorem fl_len {N nx t tk : Nat} {m : List (Nat × AV)} {ob : Obs} {lv : Lvs} {lp : Lps} {fs : List (List Nd)} (h : Lens (S N m ob lv nx lp)) (ht : look m t = some (.sl tk (fileRows fs))) : (fs.length : Int) ≤ 9223372036854775807 := by
  simpa using h.tm t tk (fileRows fs) ht
theorem nd_len {N nx t tk : Nat} {m : List (Nat × AV)} {ob : Obs} {lv : Lvs} {lp : Lps} {fs : List Nd} (h : Lens (S N m ob lv nx lp)) (ht : look m t = some (.sl tk (Nd.rows fs))) : (fs.length : Int) ≤ 9223372036854775807 := by
  simpa using h.tm t tk (Nd.rows fs) ht
theorem fl_len1 {N nx t tk i : Nat} {m : List (Nat × AV)} {ob : Obs} {lv : Lvs} {lp : Lps} {fs : List (List Nd)} (h : Lens (S N m ob lv nx lp)) (ht : look m t = some (.sl tk (fileRows fs))) (hi : i < fs.length) : (fs[i].length : Int) ≤ 9223372036854775807 := by
  simpa using h.sub t 0 _ (Nd.rows fs[i]) ht (.sl (el := [.sl 0 (Nd.rows fs[i])]) (by simp only [fileRows, List.mem_map]; exact ⟨fs[i], List.getElem_mem hi, rfl⟩) (by simp) (.self _))
theorem fl_len2 {N nx t tk i j : Nat} {m : List (Nat × AV)} {ob : Obs} {lv : Lvs} {lp : Lps} {fs : List (List Nd)} (h : Lens (S N m ob lv nx lp)) (ht : look m t = some (.sl tk (fileRows fs))) (hi : i < fs.length) (hj : j < fs[i].length) : (fs[i][j].kids.length : Int) ≤ 9223372036854775807 := by
  simpa using h.sub t 0 _ (Nd.rows fs[i][j].kids) ht (.sl (el := [.sl 0 (Nd.rows fs[i])]) (by simp only [fileRows, List.mem_map]; exact ⟨fs[i], List.getElem_mem hi, rfl⟩) (List.mem_singleton.2 rfl) (Nd.sub_row (List.getElem_mem hj) (Nd.sub_kids _) (by simp)))
theorem fl_len3 {N nx t tk i j k : Nat} {m : List (Nat × AV)} {ob : Obs} {lv : Lvs} {lp : Lps} {fs : List (List Nd)} (h : Lens (S N m ob lv nx lp)) (ht : look m t = some (.sl tk (fileRows fs))) (hi : i < fs.length) (hj : j < fs[i].length) (hk : k < fs[i][j].kids.length) : (fs[i][j].kids[k].kids.length : Int) ≤ 9223372036854775807 := by
  simpa using h.sub t 0 _ (Nd.rows fs[i][j].kids[k].kids) ht (.sl (el := [.sl 0 (Nd.rows fs[i])]) (by simp only [fileRows, List.mem_map]; exact ⟨fs[i], List.getElem_mem hi, rfl⟩) (List.mem_singleton.2 rfl) (Nd.sub_row (List.getElem_mem hj) (.agg (c := .sl 0 (Nd.rows fs[i][j].kids)) (Nd.mem_kids _) (Nd.sub_row (List.getElem_mem hk) (Nd.sub_kids _) (by simp))) (by simp)))
theorem check_ok (fs : List (List Nd)) : ACall cx 17 [.sl 0 (fileRows fs)] (chkAV (chkF fs 0)) none := by
  refine ACall.wpl (C := cx) T.func_17 (by kernel_rfl) rfl (by rfl) (fun hL => ?_)
  have hlen := fl_len (fs := fs) (t := 0) (tk := 0) hL (by simp)
  clear hL
  simp [f17]
  refine loopK [2, 11, 12] (fun i _ => i ≤ fs.length ∧ chkF (fs.drop i) i = chkF fs 0) (fun i => [(13, .int .i64 (i : Nat))]) (fun _ => [[.int .i64 0, .int .i64 0, .int .i64 0]]) (fun _ => []) (fun i => fs.length - i) 0 ⟨by simp, by simp⟩ (by simp) [] rfl (by simp) ?_
  rintro i nx g ⟨hi, hd⟩ - -
  simp
  refine split2_i (fun h1 => ?_) (fun h1 => ?_) <;> simp [h1]
  rotate_left
  · simp at h1
    have : i = fs.length := by omega
    subst this
    simp [chkF] at hd
    simp [← hd, chkAV, pu]
  simp at h1
  rw [chkF_drop h1] at hd
  simp [h1]
  refine loopC_lens (fun hL => ?_)
  have hlen1 := nd_len (fs := fs[i]) (t := 18) (tk := 0) hL (by simp)
  clear hL
  refine loopK [2, 11, 12, 13, 3, 18, 19] (fun j _ => j ≤ fs[i].length ∧ (chkC i (fs[i].drop j)).or (chkF (fs.drop (i + 1)) (i + 1)) = chkF fs 0) (fun j => [(20, .int .i64 (j : Nat))]) (fun _ => [[.int .i64 0, .int .i64 0, .int .i64 0]]) (fun _ => []) (fun j => fs[i].length - j) 0 ⟨by simp, by simpa using hd⟩ (by simp) g rfl (by simp) ?_
  clear hd g
  rintro j nx g ⟨hj, hd⟩ - -
  simp
  refine split2_i (fun h2 => ?_) (fun h2 => ?_) <;> simp [h2]
  rotate_left
  · simp at h2
    have : j = fs[i].length := by omega
    subst this
    simp [chkC] at hd
    exact againK_i (i + 1) _ ⟨h1, by simpa using hd⟩ (by omega) (by simp [wrap64_i h1 hlen]) rfl (by simp)
  simp at h2
  rw [chkC_drop h2, Option.or_assoc] at hd
  simp [h2]
  refine loopC_lens (fun hL => ?_)
  have hlen2 := nd_len (fs := fs[i][j].kids) (t := 25) (tk := 0) hL (by simp)
  clear hL
  refine loopK [2, 11, 12, 13, 3, 18, 19, 20, 6, 25, 26] (fun k _ => k ≤ fs[i][j].kids.length ∧ (chkK i fs[i][j] (fs[i][j].kids.drop k)).or ((chkC i (fs[i].drop (j + 1))).or (chkF (fs.drop (i + 1)) (i + 1))) = chkF fs 0) (fun k => [(27, .int .i64 (k : Nat))]) (fun _ => [.int .i64 0, .int .i64 0, .int .i64 0] :: (g ++ [fs[i][j].cells])) (fun _ => []) (fun k => fs[i][j].kids.length - k) 0 ⟨by simp, by simpa using hd⟩ (by simp) [] (by simp) (by simp) ?_
  clear hd
  rintro k nx g1 ⟨hk, hd⟩ - -
  simp
  refine split2_i (fun h3 => ?_) (fun h3 => ?_) <;> simp [h3]
  rotate_left
  · simp at h3
    have : k = fs[i][j].kids.length := by omega
    subst this
    simp [chkK] at hd
    exact againK_i (j + 1) _ ⟨h2, by simpa using hd⟩ (by omega) (by simp [wrap64_i h2 hlen1]) rfl (by simp)
  simp at h3
  rw [chkK_drop h3, Option.or_assoc] at hd
  simp [h3]
  refine split2_i (fun h4 => ?_) (fun h4 => ?_) <;> simp [h4]
  · have h4' : ¬ fs[i][j].kind = 1 := by simpa using h4
    simp [h4'] at hd
    exact againK_i (k + 1) (g1 ++ [fs[i][j].kids[k].cells]) ⟨h3, by simpa using hd⟩ (by omega) (by simp [wrap64_i h3 hlen2]) (by simp) (by simp)
  refine split2_i (fun h5 => ?_) (fun h5 => ?_) <;> simp [h5]
  · have h5' : ¬ fs[i][j].kids[k].kind = 3 := by simpa using h5
    simp [h5'] at hd
    exact againK_i (k + 1) (g1 ++ [fs[i][j].kids[k].cells]) ⟨h3, by simpa using hd⟩ (by omega) (by simp [wrap64_i h3 hlen2]) (by simp) (by simp)
  have h4' : fs[i][j].kind = 1 := by simpa using h4
  have h5' : fs[i][j].kids[k].kind = 3 := by simpa using h5
  refine callP_i (method_ok _) ?_
  cases hm : fs[i][j].kids[k].meth with
  | none =>
    simp [h4', h5', hm] at hd
    simp [methAV]
    exact againK_i (k + 1) (g1 ++ [fs[i][j].kids[k].cells]) ⟨h3, by simpa using hd⟩ (by omega) (by simp [wrap64_i h3 hlen2]) (by simp) (by simp)
  | some q =>
    obtain ⟨c, a⟩ := q
    have hc := Nd.meth_code hm
    simp [h4', h5', hm] at hd
    simp [methAV, hc]
    simp [← hd, chkAV, pu]
theorem refCheck_ok (fs : List (List Nd)) : ACall cx 18 [.sl 0 (fileRows fs)] (chkAV (chkF fs 0)) none := by
  refine ACall.wpl (C := cx) T.func_18 (by kernel_rfl) rfl (by rfl) (fun hL => ?_)
  have hlen := fl_len (fs := fs) (t := 0) (tk := 0) hL (by simp)
  clear hL
  simp [f18]
  refine loopK [2, 0] (fun i _ => i ≤ fs.length ∧ chkF (fs.drop i) i = chkF fs 0) (fun i => [(3, .int .i64 (i : Nat))]) (fun _ => [[.int .i64 0, .int .i64 0, .int .i64 0]]) (fun _ => []) (fun i => fs.length - i) 0 ⟨by simp, by simp⟩ (by simp) [] rfl (by simp) ?_
  rintro i nx g ⟨hi, hd⟩ - -
  simp
  refine split2_i (fun h1 => ?_) (fun h1 => ?_) <;> simp [h1]
  rotate_left
  · simp at h1
    have : i = fs.length := by omega
    subst this
    simp [chkF] at hd
    simp [← hd, chkAV, pu]
  simp at h1
  rw [chkF_drop h1] at hd
  refine loopK [2, 0, 3] (fun j _ => j ≤ fs[i].length ∧ (chkC i (fs[i].drop j)).or (chkF (fs.drop (i + 1)) (i + 1)) = chkF fs 0) (fun j => [(4, .int .i64 (j : Nat))]) (fun _ => [[.int .i64 0, .int .i64 0, .int .i64 0]]) (fun _ => []) (fun j => fs[i].length - j) 0 ⟨by simp, by simpa using hd⟩ (by simp) g rfl (by simp) ?_
  clear hd g
  rintro j nx g ⟨hj, hd⟩ - hL
  have hlen1 := fl_len1 (t := 0) (tk := 0) hL (by simp) h1
  have hlen2 := fun hj => fl_len2 (t := 0) (tk := 0) (j := j) hL (by simp) h1 hj
  have hlen3 := fun {k : Nat} hj hk => fl_len3 (t := 0) (tk := 0) (j := j) (k := k) hL (by simp) h1 hj hk
  clear hL
  simp [h1]
  refine split2_i (fun h2 => ?_) (fun h2 => ?_) <;> simp [h2]
  rotate_left
  · simp at h2
    have : j = fs[i].length := by omega
    subst this
    simp [chkC] at hd
    exact againK_i (i + 1) _ ⟨h1, by simpa using hd⟩ (by omega) (by simp [wrap64_i h1 hlen]) rfl (by simp)
  simp at h2
  have hlen2 := hlen2 h2
  rw [chkC_drop h2, Option.or_assoc] at hd
  simp [h1, h2]
  refine loopK [2, 0, 3, 4, 5] (fun k _ => k ≤ fs[i][j].kids.length ∧ (chkK i fs[i][j] (fs[i][j].kids.drop k)).or ((chkC i (fs[i].drop (j + 1))).or (chkF (fs.drop (i + 1)) (i + 1))) = chkF fs 0) (fun k => [(6, .int .i64 (k : Nat))]) (fun _ => [[.int .i64 0, .int .i64 0, .int .i64 0]]) (fun _ => []) (fun k => fs[i][j].kids.length - k) 0 ⟨by simp, by simpa using hd⟩ (by simp) g rfl (by simp) ?_
  clear hd
  rintro k nx g ⟨hk, hd⟩ - -
  simp
  refine split2_i (fun h3 => ?_) (fun h3 => ?_) <;> simp [h3]
  rotate_left
  · simp at h3
    have : k = fs[i][j].kids.length := by omega
    subst this
    simp [chkK] at hd
    exact againK_i (j + 1) _ ⟨h2, by simpa using hd⟩ (by omega) (by simp [wrap64_i h2 hlen1]) rfl (by simp)
  simp at h3
  rw [chkK_drop h3, Option.or_assoc] at hd
  simp [h1, h2, h3]
  refine split2_i (fun h4 => ?_) (fun h4 => ?_) <;> simp [h4]
  · have h4' : ¬ fs[i][j].kind = 1 := by simpa using h4
    simp [h4'] at hd
    exact againK_i (k + 1) _ ⟨h3, by simpa using hd⟩ (by omega) (by simp [wrap64_i h3 hlen2]) rfl (by simp)
  simp [h3]
  refine split2_i (fun h5 => ?_) (fun h5 => ?_) <;> simp [h5]
  · have h5' : ¬ fs[i][j].kids[k].kind = 3 := by simpa using h5
    simp [h5'] at hd
    exact againK_i (k + 1) _ ⟨h3, by simpa using hd⟩ (by omega) (by simp [wrap64_i h3 hlen2]) rfl (by simp)
  have h4' : fs[i][j].kind = 1 := by simpa using h4
  have h5' : fs[i][j].kids[k].kind = 3 := by simpa using h5
  simp [h4', h5'] at hd
  simp [h3]
  refine split2_i (fun h6 => ?_) (fun h6 => ?_) <;> simp [h6]
  · have hm : fs[i][j].kids[k].meth = none := by simp at h6; simp [Nd.meth, h6]
    simp [hm] at hd
    exact againK_i (k + 1) _ ⟨h3, by simpa using hd⟩ (by omega) (by simp [wrap64_i h3 hlen2]) rfl (by simp)
  have hlen3 : (fs[i][j].kids[k].kids.length : Int) ≤ 9223372036854775807 := hlen3 h2 h3
  have e2 : 0 < fs[i][j].kids[k].kids.length := by simp at h6; exact List.length_pos_iff.2 (by simpa using h6)
  have e3 : IntKind.i64.wrap ((fs[i][j].kids[k].kids.length : Int) - 1) = ((fs[i][j].kids[k].kids.length - 1 : Nat) : Int) := by rw [wrap64_in (by omega) (by omega)]; omega
  have e4 : fs[i][j].kids[k].kids.length - 1 < fs[i][j].kids[k].kids.length := by omega
  have e5 : ¬ fs[i][j].kids[k].kids.length = 0 := by omega
  simp [h3, e3, e4]
  refine ⟨by kernel_rfl, ?_⟩
  refine callP_i (refDead_ok _) ?_
  cases hdd : (fs[i][j].kids[k].kids[fs[i][j].kids[k].kids.length - 1]).dead with
  | some d =>
    have hm : fs[i][j].kids[k].meth = some (191, d.from_) := by simp [Nd.meth, e4, e5, hdd]
    simp [hm] at hd
    simp [deadAV, ← hd, chkAV, pu]
  | none =>
    simp [deadAV]
    refine callP_i (refEnds_ok _) ?_
    simp
    refine split2_i (fun h7 => ?_) (fun h7 => ?_) <;> simp [h7, h3]
    · refine split2_i (fun h8 => ?_) (fun h8 => ?_) <;> simp [h8, h1, h2, h3]
      · have hm : fs[i][j].kids[k].meth = none := by simp at h8; simp [Nd.meth, e4, e5, hdd, h7, void, h8]
        simp [hm] at hd
        exact againK_i (k + 1) _ ⟨h3, by simpa using hd⟩ (by omega) (by simp [wrap64_i h3 hlen2]) rfl (by simp)
      · have hm : fs[i][j].kids[k].meth = some (190, fs[i][j].kids[k].at_) := by simp at h8; simp [Nd.meth, e4, e5, hdd, h7, void, h8]
        simp [hm] at hd
        simp [← hd, chkAV, pu]
    · have hm : fs[i][j].kids[k].meth = none := by simp [Nd.meth, e4, e5, hdd, h7]
      simp [hm] at hd
      exact againK_i (k + 1) _ ⟨h3, by simpa using hd⟩ (by omega) (by simp [wrap64_i h3 hlen2]) rfl (by simp)
end Go.Proofs.AL
namespace Go.Proofs.AL
open Go Go.RowKit Go.Proofs.Try
set_option maxRecDepth 100000
def Nd.few (x : Nd) : Bool := !x.deep 80 && decide (x.count ≤ 400)
theorem few_ok (x : Nd) (hb : x.count ≤ 10000000) : ACall cx 8 [.agg x.cells] (.bool x.few) none := by
  refine ACall.wpc (C := cx) T.func_8 (by kernel_rfl) rfl (by rfl) ?_
  simp [f8]
  refine callP_i (deep_ok _ _) ?_
  simp
  refine split2_i (fun h1 => ?_) (fun h1 => ?_) <;> simp [h1]
  · simp [Nd.few, h1]
  · refine callP_i (count_ok _ hb) ?_
    simp [Nd.few, h1]
    omega
def Awake : Prop := ACall cx 7 [] (.bool true) none
set_option maxHeartbeats 4000000 in
theorem tells_ok (hw : Awake) (x : Nd) (hb : x.count ≤ 10000000) : ACall cx 3 [.agg x.cells] (.bool true) none := by
  refine ACall.wpc (C := cx) T.func_3 (by kernel_rfl) rfl (by rfl) ?_
  simp [f3]
  refine callP_i hw ?_
  simp
  refine callP_i (few_ok x hb) ?_
  simp
  refine split2_i (fun h1 => ?_) (fun h1 => ?_) <;> simp [h1]
  refine callP_i (dead_ok _) ?_
  simp [deadAV]
  refine callP_i (refDead_ok _) ?_
  simp [deadAV]
  refine callP_i (ends_ok _) ?_
  simp
  refine callP_i (refEnds_ok _) ?_
  simp
  refine callP_i (exact_ok _ _) ?_
  simp
  refine callP_i (reached_ok _) ?_
  simp
  refine callP_i (refReached_ok _) ?_
  simp [Nd.reached2_same]
  kernel_rfl
end Go.Proofs.AL
namespace Go.Proofs.AL
open Go Go.RowKit Go.Proofs.Try
set_option maxRecDepth 100000
def awB : Nd := .mk 5 ⟨#[]⟩ ⟨#[]⟩ 0 0 13 (-1) (-1) [.mk 11 ⟨#[]⟩ ⟨#[]⟩ 0 1 8 (-1) (-1) [], .mk 8 ⟨#[]⟩ ⟨#[]⟩ 0 8 12 (-1) (-1) [.mk 19 ⟨#[109]⟩ ⟨#[]⟩ 0 8 11 8 (-1) []]]
def awX : Nd := .mk 8 ⟨#[]⟩ ⟨#[]⟩ 0 8 12 (-1) (-1) [.mk 19 ⟨#[109]⟩ ⟨#[]⟩ 0 8 11 8 (-1) []]
def awN : Nd := .mk 9 ⟨#[]⟩ ⟨#[]⟩ 0 0 32 (-1) (-1) [.mk 17 ⟨#[97]⟩ ⟨#[]⟩ 0 3 4 3 (-1) [], .mk 11 ⟨#[]⟩ ⟨#[]⟩ 0 5 14 (-1) (-1) [.mk 13 ⟨#[]⟩ ⟨#[]⟩ 1 12 13 (-1) (-1) []], .mk 10 ⟨#[]⟩ ⟨#[]⟩ 0 19 32 (-1) (-1) [.mk 14 ⟨#[]⟩ ⟨#[]⟩ 1 25 29 (-1) (-1) [], .mk 5 ⟨#[]⟩ ⟨#[]⟩ 0 30 32 (-1) (-1) []]]
def awL : List Nd := [.mk 1 ⟨#[65]⟩ ⟨#[]⟩ 0 0 18 6 (-1) [.mk 3 ⟨#[109]⟩ ⟨#[105, 110, 116]⟩ 0 8 17 12 8 [.mk 5 ⟨#[]⟩ ⟨#[]⟩ 0 15 17 (-1) (-1) []]]]
theorem one1 : ACall cx 19 [.str ⟨#[123, 114, 101, 116, 117, 114, 110, 59, 109, 40, 41, 59, 125]⟩, .int .i64 2] (.tup [.agg awB.cells, .agg [.int .i64 0, .int .i64 0, .int .i64 0]]) none :=
  callA_ok (C := cx) (k := 200) (q := (_, none)) (by kernel_rfl)
theorem one2 : ACall cx 19 [.str ⟨#[105, 102, 40, 97, 41, 114, 101, 116, 117, 114, 110, 32, 49, 59, 101, 108, 115, 101, 32, 119, 104, 105, 108, 101, 40, 116, 114, 117, 101, 41, 123, 125]⟩, .int .i64 2] (.tup [.agg awN.cells, .agg [.int .i64 0, .int .i64 0, .int .i64 0]]) none :=
  callA_ok (C := cx) (k := 200) (q := (_, none)) (by kernel_rfl)
theorem file1 : ACall cx 16 [.str ⟨#[99, 108, 97, 115, 115, 32, 65, 123, 105, 110, 116, 32, 109, 40, 41, 123, 125, 125]⟩] (.tup [.sl 0 (Nd.rows awL), .agg [.int .i64 0, .int .i64 0, .int .i64 0]]) (some (0, 24)) :=
  callA_ok (C := cx) (k := 200) (q := (_, some (0, 24))) (by kernel_rfl)
theorem fileRows_one (l : List Nd) : [[AV.sl 0 (Nd.rows l)]] = fileRows [l] := rfl
set_option maxHeartbeats 4000000 in
theorem awake_ok : Awake := by
  have d1 : awB.dead = some awX := by kernel_rfl
  have d2 : awN.ends = false := by kernel_rfl
  have d3 : awX.ends = true := by kernel_rfl
  have d4 : awB.reached = 2 := by kernel_rfl
  have d5 : chkF [awL] 0 = some (190, 0, 12) := by kernel_rfl
  have d6 : awX.kind = 8 := by kernel_rfl
  refine ACall.wpc (C := cx) T.func_7 (by kernel_rfl) rfl (by rfl) ?_
  simp [f7]
  refine callP_i one1 ?_
  simp
  refine callP_i one2 ?_
  simp
  refine callP_i file1 ?_
  simp
  refine callP_i (dead_ok _) ?_
  simp [d1, deadAV]
  rw [fileRows_one]
  refine callP_i (check_ok _) ?_
  simp [d5, chkAV, d6]
  refine callP_i (ends_ok _) ?_
  simp [d2]
  refine callP_i (ends_ok _) ?_
  simp [d3]
  refine callP_i (reached_ok _) ?_
  simp [d4]
end Go.Proofs.AL
namespace Go.Proofs.AL
open Go Go.RowKit Go.Proofs.Try
set_option maxRecDepth 100000
/-- A token, as the program has it. -/
structure Tk where
  kind : Int
  text : ByteArray
  at_ : Int
  lead : ByteArray
def Tk.cells (x : Tk) : List AV := [.int .i64 x.kind, .str x.text, .int .i64 x.at_, .str x.lead]
def Tk.rows (l : List Tk) : List (List AV) := l.map Tk.cells
instance : Inhabited Tk := ⟨⟨0, .empty, 0, .empty⟩⟩
@[simp] theorem Tk.rows_length (l : List Tk) : (Tk.rows l).length = l.length := by simp [Tk.rows]
@[simp] theorem Tk.rows_nil : Tk.rows [] = [] := rfl
@[simp] theorem Tk.cells_length (x : Tk) : x.cells.length = 4 := rfl
@[simp] theorem Tk.rows_all (l : List Tk) : (∀ el ∈ Tk.rows l, el.length = 4) = True := by simp [Tk.rows]
@[simp] theorem Tk.append_cells (l : List Tk) (k a : Int) (t d : ByteArray) : Tk.rows l ++ [[AV.int .i64 k, .str t, .int .i64 a, .str d]] = Tk.rows (l ++ [⟨k, t, a, d⟩]) := by simp [Tk.rows, Tk.cells]
@[simp] theorem Tk.er_rows (l : List Tk) : (Tk.rows l).map (List.map er1) = Tk.rows l := by simp [Tk.rows, Tk.cells, er1]
@[simp] theorem Tk.c0 (x : Tk) : x.cells[0]? = some (.int .i64 x.kind) := rfl
@[simp] theorem Tk.c1 (x : Tk) : x.cells[1]? = some (.str x.text) := rfl
@[simp] theorem Tk.c2 (x : Tk) : x.cells[2]? = some (.int .i64 x.at_) := rfl
@[simp] theorem Tk.c3 (x : Tk) : x.cells[3]? = some (.str x.lead) := rfl
@[simp] theorem Tk.g0 (x : Tk) (h : 0 < x.cells.length) : x.cells[0] = .int .i64 x.kind := rfl
@[simp] theorem Tk.g1 (x : Tk) (h : 1 < x.cells.length) : x.cells[1] = .str x.text := rfl
@[simp] theorem Tk.g2 (x : Tk) (h : 2 < x.cells.length) : x.cells[2] = .int .i64 x.at_ := rfl
@[simp] theorem Tk.g3 (x : Tk) (h : 3 < x.cells.length) : x.cells[3] = .str x.lead := rfl
@[simp] theorem Tk.pu_rows (l : List Tk) : puLL (Tk.rows l) = true := by
  induction l with
  | nil => rfl
  | cons x l ih =>
    show puLL (x.cells :: Tk.rows l) = true
    simp [puLL, Tk.cells, puL, pu, ih]
@[simp high] theorem Tk.idx {tk : Nat} {l : List Tk} {k : IntKind} {n : Int} : idxAddr prog 48 (.sl tk (Tk.rows l)) (.int k n) = if 0 ≤ n ∧ n < l.length then some (.cptr (l.getD n.toNat default).cells) else none := by
  simp only [idxAddr, T.elT_48, T.szOf_52, Tk.rows_length, Tk.rows_all, if_true]
  by_cases h : 0 ≤ n ∧ n < l.length
  · rw [if_pos h, if_pos h]
    have : n.toNat < l.length := by omega
    simp [Tk.rows, this]
  · rw [if_neg h, if_neg h]
def dg (n : Int) : Bool := decide (48 ≤ n) && decide (n ≤ 57)
theorem digit_ok (n : Int) : ACall cx 52 [.int .u8 n] (.bool (dg n)) none := by
  refine ACall.wpc (C := cx) T.func_52 (by kernel_rfl) rfl (by rfl) ?_
  simp [f52]
  refine split2_i (fun h => ?_) (fun h => ?_) <;> simp [h]
  all_goals (simp_all [dg] <;> omega)
def lt (n : Int) : Bool := (decide (97 ≤ n) && decide (n ≤ 122)) || (decide (65 ≤ n) && decide (n ≤ 90)) || n == 95
theorem letter_ok (n : Int) : ACall cx 54 [.int .u8 n] (.bool (lt n)) none := by
  refine ACall.wpc (C := cx) T.func_54 (by kernel_rfl) rfl (by rfl) ?_
  simp [f54]
  repeat' ((with_reducible refine split2_i (fun h => ?_) (fun h => ?_)) <;> simp [h])
  all_goals (simp_all [lt] <;> omega)
theorem great_ok (s : ByteArray) : ACallQ cx 53 [.str s] (fun r => ∃ b, r = .bool b) none := by
  refine ACallQ.wpl (C := cx) T.func_53 (by kernel_rfl) rfl (by rfl) (fun _ => ?_)
  simp [f53]
  refine split2_i (fun h1 => ?_) (fun h1 => ?_) <;> simp [h1, pu]
  have hs : s.size ≤ 10 := by simp at h1; omega
  refine loopK [0] (fun (p : Nat × Int) _ => p.1 ≤ s.size) (fun p => [(4, .int .i64 (p.1 : Nat)), (3, .int .i64 p.2)]) (fun _ => []) (fun _ => []) (fun p => s.size - p.1) (0, 0) (by simp) (by simp) [] rfl (by simp) ?_
  rintro ⟨i, n⟩ nx g hi - -
  dsimp only at hi
  simp
  refine split2_i (fun h2 => ?_) (fun h2 => ?_) <;> simp [h2, pu]
  rotate_left
  · omega
  simp at h2
  simp [h2]
  exact againK_i (i + 1, _) g h2 (by dsimp only; omega) ⟨by simp [wrap64_i h2 (show (s.size : Int) ≤ 9223372036854775807 by omega)], rfl, by simp⟩ rfl (by simp)
/-- Texts, as the program has them. -/
def strRows (l : List ByteArray) : List (List AV) := l.map fun s => [.str s]
@[simp] theorem strRows_length (l : List ByteArray) : (strRows l).length = l.length := by simp [strRows]
@[simp] theorem strRows_all (l : List ByteArray) : (∀ el ∈ strRows l, el.length = 1) = True := by simp [strRows]
@[simp] theorem strRows_nil : strRows [] = [] := rfl
@[simp] theorem strRows_append (l : List ByteArray) (x : ByteArray) : strRows l ++ [[AV.str x]] = strRows (l ++ [x]) := by simp [strRows]
@[simp] theorem strRows_er (l : List ByteArray) : (strRows l).map (List.map er1) = strRows l := by simp [strRows, er1]
@[simp] theorem strRows_pu (l : List ByteArray) : puLL (strRows l) = true := by
  induction l with
  | nil => rfl
  | cons x l ih =>
    show puLL ([.str x] :: strRows l) = true
    simp [puLL, puL, pu, ih]
@[simp high] theorem strRows_idx {tk : Nat} {l : List ByteArray} {k : IntKind} {n : Int} : idxAddr prog 31 (.sl tk (strRows l)) (.int k n) = if 0 ≤ n ∧ n < l.length then some (.cptr [.str (l.getD n.toNat .empty)]) else none := by
  simp only [idxAddr, T.elT_31, T.szOf_9, strRows_length, strRows_all, if_true]
  by_cases h : 0 ≤ n ∧ n < l.length
  · rw [if_pos h, if_pos h]
    have : n.toNat < l.length := by omega
    simp [strRows, this]
  · rw [if_neg h, if_neg h]
def anyBool (r : AV) : Prop := ∃ b, r = .bool b
theorem kept_ok (s : ByteArray) : ACallQ cx 55 [.str s] anyBool none := by
  refine ACallQ.wpl (C := cx) T.func_55 (by kernel_rfl) rfl (by rfl) (fun _ => ?_)
  simp [f55]
  obtain ⟨kw, hkw, hl⟩ : ∃ kw : List ByteArray, strRows kw = [[AV.str ⟨#[99, 108, 97, 115, 115]⟩], [AV.str ⟨#[101, 120, 116, 101, 110, 100, 115]⟩], [AV.str ⟨#[115, 116, 97, 116, 105, 99]⟩], [AV.str ⟨#[118, 111, 105, 100]⟩], [AV.str ⟨#[105, 110, 116]⟩], [AV.str ⟨#[98, 111, 111, 108, 101, 97, 110]⟩], [AV.str ⟨#[105, 102]⟩], [AV.str ⟨#[101, 108, 115, 101]⟩], [AV.str ⟨#[119, 104, 105, 108, 101]⟩], [AV.str ⟨#[114, 101, 116, 117, 114, 110]⟩], [AV.str ⟨#[112, 114, 105, 110, 116]⟩], [AV.str ⟨#[116, 114, 117, 101]⟩], [AV.str ⟨#[102, 97, 108, 115, 101]⟩], [AV.str ⟨#[110, 117, 108, 108]⟩], [AV.str ⟨#[116, 104, 105, 115]⟩], [AV.str ⟨#[110, 101, 119]⟩]] ∧ kw.length = 16 := ⟨[_, _, _, _, _, _, _, _, _, _, _, _, _, _, _, _], rfl, rfl⟩
  rw [← hkw]
  clear hkw
  refine ⟨by decide, ?_⟩
  refine loopK [0, 3] (fun i _ => i ≤ 16) (fun i => [(4, .int .i64 (i : Nat))]) (fun _ => []) (fun _ => []) (fun i => 16 - i) 0 (by simp) ?_ [] rfl (by simp) ?_
  · simp
  rintro i nx g hi - -
  simp [hl]
  refine split2_i (fun h2 => ?_) (fun h2 => ?_) <;> simp [h2, pu, anyBool]
  have h3 : i < 16 := by simp at h2; omega
  have h4 : (i : Int) < 16 := by omega
  simp [h4, h3, hl]
  refine split2_i (fun h5 => ?_) (fun h5 => ?_) <;> simp [h5, pu, anyBool]
  exact againK_i (i + 1) g h3 (by omega) (by simp [wrap64_i h3]) rfl (by simp)
/-- A place from here on, no further than the end. -/
def betw (s : ByteArray) (a : Nat) (r : AV) : Prop := ∃ (n : Nat) (b : Bool), r = .tup [.int .i64 (n : Nat), .bool b] ∧ a ≤ n ∧ n ≤ s.size
set_option maxHeartbeats 2000000 in
theorem between_ok (s : ByteArray) (a : Nat) (ha : a ≤ s.size) (hs : s.size ≤ 1048576) : ACallQ cx 39 [.str s, .int .i64 (a : Nat)] (betw s a) none := by
  refine ACallQ.wpl (C := cx) T.func_39 (by kernel_rfl) rfl (by rfl) (fun _ => ?_)
  simp [f39]
  have wr : ∀ n : Nat, n ≤ 1048576 → IntKind.i64.wrap ((n : Int) + 1) = ((n + 1 : Nat) : Int) := fun n hn => by rw [wrap64_in (by omega) (by omega)]; omega
  have wr2 : ∀ n : Nat, n ≤ 1048576 → IntKind.i64.wrap ((n : Int) + 2) = ((n + 2 : Nat) : Int) := fun n hn => by rw [wrap64_in (by omega) (by omega)]; omega
  refine loopK [0] (fun i _ => a ≤ i ∧ i ≤ s.size) (fun i => [(1, .int .i64 (i : Nat))]) (fun _ => []) (fun _ => []) (fun i => s.size - i) a ⟨by omega, ha⟩ (by simp) [] rfl (by simp) ?_
  rintro i nx g ⟨hi1, hi2⟩ - -
  simp
  refine split2_i (fun h1 => ?_) (fun h1 => ?_) <;> simp [h1, pu]
  rotate_left
  · exact ⟨i, _, rfl, hi1, hi2⟩
  simp at h1
  have w1 := wr i (by omega)
  have w2 := wr2 i (by omega)
  simp [h1, w1, w2]
  have hn1 : 0 ≤ (i : Int) + 1 := by omega
  by_cases h2 : i + 1 < s.size
  rotate_left
  · have c1 : (s.size : Int) ≤ (i : Int) + 1 := by omega
    repeat' ((with_reducible refine split2_i (fun h => ?_) (fun h => ?_)) <;> simp [h, h1, w1, w2, pu, c1])
    any_goals exact againK_i (i + 1) g ⟨by omega, by omega⟩ (by omega) (by simp) rfl (by simp)
    all_goals exact ⟨i, _, rfl, hi1, hi2⟩
  have c1 : ¬ (s.size : Int) ≤ (i : Int) + 1 := by omega
  have c2 : (i : Int) + 1 < s.size := by omega
  repeat' ((with_reducible refine split2_i (fun h => ?_) (fun h => ?_)) <;> simp [h, h1, w1, w2, pu, c1, c2, hn1])
  any_goals exact againK_i (i + 1) g ⟨by omega, by omega⟩ (by omega) (by simp) rfl (by simp)
  any_goals ((with_reducible show betw _ _ _); exact ⟨i, _, rfl, hi1, hi2⟩)
  all_goals have hb : (byteAt s i == 47) = true := by simp_all
  · refine loopK [0] (fun k _ => i ≤ k ∧ k ≤ s.size) (fun k => [(1, .int .i64 (k : Nat))]) (fun _ => []) (fun _ => []) (fun k => s.size - k) i ⟨Nat.le_refl _, hi2⟩ (by simp) g rfl (by simp) ?_
    rintro k nx' g' ⟨hk1, hk2⟩ - -
    simp
    by_cases h3 : k < s.size
    · have w3 := wr k (by omega)
      simp [h3, w3]
      refine split2_i (fun h4 => ?_) (fun h4 => ?_) <;> simp [h4, pu, w3]
      · exact againK_i (k + 1) g' ⟨by omega, by omega⟩ (by omega) (by simp) rfl (by simp)
      · have hne : k ≠ i := fun e => by subst e; simp_all
        exact againK_i k g' ⟨by omega, hk2⟩ (by omega) (by simp) rfl (by simp)
    · simp [h3, pu]
      exact againK_i k g' ⟨by omega, hk2⟩ (by omega) (by simp) rfl (by simp)
  · refine loopK [0, 1] (fun k _ => i + 2 ≤ k ∧ k ≤ s.size) (fun k => [(7, .int .i64 (k : Nat))]) (fun _ => []) (fun _ => []) (fun k => s.size - k) (i + 2) ⟨Nat.le_refl _, by omega⟩ (by simp) g rfl (by simp) ?_
    rintro k nx' g' ⟨hk1, hk2⟩ - -
    simp
    have w3 := wr k (by omega)
    by_cases h3 : k + 1 < s.size
    · have c3 : (k : Int) + 1 < s.size := by omega
      have c4 : ¬ (s.size : Int) ≤ (k : Int) + 1 := by omega
      have c5 : 0 ≤ (k : Int) + 1 := by omega
      have h3' : k < s.size := by omega
      have w4 := wr2 k (by omega)
      simp [h3', w3, c3, c4, c5]
      repeat' ((with_reducible refine split2_i (fun h4 => ?_) (fun h4 => ?_)) <;> simp [h4, pu, w3, w4, c3, c4, c5, h3'])
      · exact againK_i (k + 1) g' ⟨by omega, by omega⟩ (by omega) (by simp) rfl (by simp)
      · exact againK_i (k + 1) g' ⟨by omega, by omega⟩ (by omega) (by simp) rfl (by simp)
      · exact againK_i (k + 2) g' ⟨by omega, by omega⟩ (by omega) (by simp) rfl (by simp)
    · have c3 : ¬ (k : Int) + 1 < s.size := by omega
      have c4 : (s.size : Int) ≤ (k : Int) + 1 := by omega
      simp [w3, c3, c4, pu]
      exact ⟨i, _, rfl, hi1, hi2⟩
  · refine loopK [0] (fun k _ => i ≤ k ∧ k ≤ s.size) (fun k => [(1, .int .i64 (k : Nat))]) (fun _ => []) (fun _ => []) (fun k => s.size - k) i ⟨Nat.le_refl _, hi2⟩ (by simp) g rfl (by simp) ?_
    rintro k nx' g' ⟨hk1, hk2⟩ - -
    simp
    by_cases h3 : k < s.size
    · have w3 := wr k (by omega)
      simp [h3, w3]
      refine split2_i (fun h4 => ?_) (fun h4 => ?_) <;> simp [h4, pu, w3]
      · exact againK_i (k + 1) g' ⟨by omega, by omega⟩ (by omega) (by simp) rfl (by simp)
      · have hne : k ≠ i := fun e => by subst e; simp_all
        exact againK_i k g' ⟨by omega, hk2⟩ (by omega) (by simp) rfl (by simp)
    · simp [h3, pu]
      exact againK_i k g' ⟨by omega, hk2⟩ (by omega) (by simp) rfl (by simp)
  · refine loopK [0, 1] (fun k _ => i + 2 ≤ k ∧ k ≤ s.size) (fun k => [(7, .int .i64 (k : Nat))]) (fun _ => []) (fun _ => []) (fun k => s.size - k) (i + 2) ⟨Nat.le_refl _, by omega⟩ (by simp) g rfl (by simp) ?_
    rintro k nx' g' ⟨hk1, hk2⟩ - -
    simp
    have w3 := wr k (by omega)
    by_cases h3 : k + 1 < s.size
    · have c3 : (k : Int) + 1 < s.size := by omega
      have c4 : ¬ (s.size : Int) ≤ (k : Int) + 1 := by omega
      have c5 : 0 ≤ (k : Int) + 1 := by omega
      have h3' : k < s.size := by omega
      have w4 := wr2 k (by omega)
      simp [h3', w3, c3, c4, c5]
      repeat' ((with_reducible refine split2_i (fun h4 => ?_) (fun h4 => ?_)) <;> simp [h4, pu, w3, w4, c3, c4, c5, h3'])
      · exact againK_i (k + 1) g' ⟨by omega, by omega⟩ (by omega) (by simp) rfl (by simp)
      · exact againK_i (k + 1) g' ⟨by omega, by omega⟩ (by omega) (by simp) rfl (by simp)
      · exact againK_i (k + 2) g' ⟨by omega, by omega⟩ (by omega) (by simp) rfl (by simp)
    · have c3 : ¬ (k : Int) + 1 < s.size := by omega
      have c4 : (s.size : Int) ≤ (k : Int) + 1 := by omega
      simp [w3, c3, c4, pu]
      exact ⟨i, _, rfl, hi1, hi2⟩
end Go.Proofs.AL
namespace Go.Proofs.AL
open Go Go.RowKit Go.Proofs.Try
set_option maxRecDepth 100000
/-- How long a mark is: nothing, or something that stays within the text. -/
def markQ (s : ByteArray) (a : Nat) (r : AV) : Prop := ∃ n : Nat, r = .int .i64 (n : Nat) ∧ n ≤ 2 ∧ a + n ≤ s.size
set_option maxHeartbeats 2000000 in
theorem mark_ok (s : ByteArray) (a : Nat) (ha : a < s.size) (hs : s.size ≤ 1048576) : ACallQ cx 56 [.str s, .int .i64 (a : Nat)] (markQ s a) none := by
  refine ACallQ.wpl (C := cx) T.func_56 (by kernel_rfl) rfl (by rfl) (fun _ => ?_)
  simp [f56]
  obtain ⟨kw, hkw, hl⟩ : ∃ kw : List ByteArray, strRows kw = [[AV.str ⟨#[61, 61]⟩], [AV.str ⟨#[33, 61]⟩], [AV.str ⟨#[60, 61]⟩], [AV.str ⟨#[62, 61]⟩], [AV.str ⟨#[38, 38]⟩], [AV.str ⟨#[124, 124]⟩]] ∧ kw.length = 6 := ⟨[_, _, _, _, _, _], rfl, rfl⟩
  rw [← hkw]
  clear hkw
  have hz : (⟨#[43, 45, 42, 47, 37, 60, 62, 61, 33, 40, 41, 123, 125, 59, 44, 46]⟩ : ByteArray).size = 16 := rfl
  have w2 : IntKind.i64.wrap ((a : Int) + 2) = ((a + 2 : Nat) : Int) := by rw [wrap64_in (by omega) (by omega)]; omega
  refine ⟨by decide, ?_⟩
  refine loopK [0, 1, 5] (fun i _ => i ≤ 6) (fun i => [(6, .int .i64 (i : Nat))]) (fun _ => []) (fun _ => []) (fun i => 6 - i) 0 (by simp) (by simp) [] rfl (by simp) ?_
  rintro i nx g hi - -
  by_cases h1 : i < 6
  · have w3 : IntKind.i64.wrap ((i : Int) + 1) = ((i + 1 : Nat) : Int) := by rw [wrap64_in (by omega) (by omega)]; omega
    have c1 : (i : Int) < 6 := by omega
    have c2 : decide ((i : Int) < 6) = true := by simp [c1]
    simp [hl, w2, w3, h1, c1, c2]
    by_cases h2 : a + 2 ≤ s.size
    · have c3 : (a : Int) + 2 ≤ s.size := by omega
      have c4 : 0 ≤ (a : Int) + 2 := by omega
      have c5 : (a : Int) ≤ (a : Int) + 2 := by omega
      simp [h2, c3, c4, c5, w2, h1]
      refine ⟨by omega, by rfl, ?_⟩
      refine split2_i (fun h4 => ?_) (fun h4 => ?_) <;> simp [h4, pu, w2, w3]
      · exact ⟨2, rfl, by omega, by omega⟩
      · exact againK_i (i + 1) g (by omega) (by omega) (by simp) rfl (by simp)
    · have c3 : ¬ (a : Int) + 2 ≤ s.size := by omega
      simp [h2, c3, pu]
      refine loopK [0, 1, 7] (fun k _ => k ≤ 16) (fun k => [(8, .int .i64 (k : Nat))]) (fun _ => []) (fun _ => []) (fun k => 16 - k) 0 (by simp) (by simp) _ rfl (by simp) ?_
      rintro k nx' g' hk - -
      simp
      by_cases g1 : k < 16
      · have w5 : IntKind.i64.wrap ((k : Int) + 1) = ((k + 1 : Nat) : Int) := by rw [wrap64_in (by omega) (by omega)]; omega
        have d1 : (k : Int) < 16 := by omega
        simp [g1, d1, w5, ha, hz]
        refine ⟨by rfl, ?_⟩
        refine split2_i (fun h4 => ?_) (fun h4 => ?_) <;> simp [h4, pu, w5]
        · exact ⟨1, rfl, by omega, by omega⟩
        · exact againK_i (k + 1) g' (by omega) (by omega) (by simp) rfl (by simp)
      · have d1 : ¬ (k : Int) < 16 := by omega
        simp [g1, d1, pu, hz]
        exact ⟨0, rfl, by omega, by omega⟩
  · have c1 : ¬ (i : Int) < 6 := by omega
    simp [hl, w2, h1, c1, pu]
    refine loopK [0, 1, 7] (fun k _ => k ≤ 16) (fun k => [(8, .int .i64 (k : Nat))]) (fun _ => []) (fun _ => []) (fun k => 16 - k) 0 (by simp) (by simp) _ rfl (by simp) ?_
    rintro k nx' g' hk - -
    simp
    by_cases g1 : k < 16
    · have w5 : IntKind.i64.wrap ((k : Int) + 1) = ((k + 1 : Nat) : Int) := by rw [wrap64_in (by omega) (by omega)]; omega
      have d1 : (k : Int) < 16 := by omega
      simp [g1, d1, w5, ha, hz]
      refine ⟨by rfl, ?_⟩
      refine split2_i (fun h4 => ?_) (fun h4 => ?_) <;> simp [h4, pu, w5]
      · exact ⟨1, rfl, by omega, by omega⟩
      · exact againK_i (k + 1) g' (by omega) (by omega) (by simp) rfl (by simp)
    · have d1 : ¬ (k : Int) < 16 := by omega
      simp [g1, d1, pu, hz]
      exact ⟨0, rfl, by omega, by omega⟩
end Go.Proofs.AL
