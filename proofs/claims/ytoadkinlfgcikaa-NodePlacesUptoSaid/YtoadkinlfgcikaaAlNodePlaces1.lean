/- What the functions that the law NodePlaces reaches compute, and the law (part 1). -/
import Derived.Test.YtoadkinlfgcikaaRows
import Derived.Test.YtoadkinlfgcikaaTc
import Derived.ChangeArms
import Derived.SizedLaws
import Derived.DataElems
import Derived.WalkKit
import Derived.ProofKit
import Derived.OpenShut
import Derived.ShutString
import Derived.ChangeOld
import Derived.Below
namespace Go.Proofs.AL
open Go Go.RowKit Go.Proofs.Try
set_option maxRecDepth 100000
/-- A node, as the program has it. -/
inductive Nd where
  | mk (kind : Int) (text type : ByteArray) (n from_ to at_ typeAt : Int) (kids : List Nd)
def Nd.kind : Nd → Int | .mk k .. => k
def Nd.text : Nd → ByteArray | .mk _ t .. => t
def Nd.type : Nd → ByteArray | .mk _ _ t .. => t
def Nd.n : Nd → Int | .mk _ _ _ n .. => n
def Nd.from_ : Nd → Int | .mk _ _ _ _ f .. => f
def Nd.to : Nd → Int | .mk _ _ _ _ _ t .. => t
def Nd.at_ : Nd → Int | .mk _ _ _ _ _ _ a .. => a
def Nd.typeAt : Nd → Int | .mk _ _ _ _ _ _ _ a _ => a
def Nd.kids : Nd → List Nd | .mk _ _ _ _ _ _ _ _ l => l
mutual
def Nd.cells : Nd → List AV
  | .mk k t y n f o a ta l => [.int .i64 k, .str t, .str y, .int .i64 n, .int .i64 f, .int .i64 o, .int .i64 a, .int .i64 ta, .sl 0 (Nd.rows l)]
def Nd.rows : List Nd → List (List AV)
  | [] => []
  | x :: l => x.cells :: Nd.rows l
end
theorem Nd.cells_eq (x : Nd) : x.cells = [.int .i64 x.kind, .str x.text, .str x.type, .int .i64 x.n, .int .i64 x.from_, .int .i64 x.to, .int .i64 x.at_, .int .i64 x.typeAt, .sl 0 (Nd.rows x.kids)] := by cases x; rfl
theorem Nd.rows_map (l : List Nd) : Nd.rows l = l.map Nd.cells := by induction l with | nil => rfl | cons x l ih => rw [Nd.rows, ih]; rfl
@[simp] theorem Nd.rows_length (l : List Nd) : (Nd.rows l).length = l.length := by rw [Nd.rows_map]; simp
@[simp] theorem Nd.rows_eq_nil (l : List Nd) : (Nd.rows l = []) = (l = []) := by cases l <;> simp [Nd.rows]
@[simp] theorem Nd.rows_nil : Nd.rows [] = [] := rfl
instance : Inhabited Nd := ⟨.mk 0 .empty .empty 0 0 0 0 0 []⟩
theorem Nd.rows_getD {l : List Nd} {i : Nat} (h : i < l.length) : (Nd.rows l).getD i [] = (l.getD i default).cells := by
  rw [Nd.rows_map]; simp [h]
@[simp] theorem Nd.cells_length (x : Nd) : x.cells.length = 9 := by simp [Nd.cells_eq]
@[simp] theorem Nd.rows_all (l : List Nd) : (∀ el ∈ Nd.rows l, el.length = 9) = True := by
  rw [Nd.rows_map]; simp
theorem Nd.rows_append (a b : List Nd) : Nd.rows (a ++ b) = Nd.rows a ++ Nd.rows b := by simp [Nd.rows_map]
@[simp] theorem Nd.append_rows (a b : List Nd) : Nd.rows a ++ Nd.rows b = Nd.rows (a ++ b) := (Nd.rows_append a b).symm
@[simp] theorem Nd.append_cells (a : List Nd) (x : Nd) : Nd.rows a ++ [x.cells] = Nd.rows (a ++ [x]) := by rw [Nd.rows_append]; rfl
theorem Nd.rows_one (x : Nd) : Nd.rows [x] = [x.cells] := rfl
@[simp] theorem Nd.mk_eta (x : Nd) : Nd.mk x.kind x.text x.type x.n x.from_ x.to x.at_ x.typeAt x.kids = x := by cases x; rfl
@[simp] theorem kind_mk (k t y n f o a ta l) : (Nd.mk k t y n f o a ta l).kind = k := rfl
@[simp] theorem text_mk (k t y n f o a ta l) : (Nd.mk k t y n f o a ta l).text = t := rfl
@[simp] theorem type_mk (k t y n f o a ta l) : (Nd.mk k t y n f o a ta l).type = y := rfl
@[simp] theorem n_mk (k t y n f o a ta l) : (Nd.mk k t y n f o a ta l).n = n := rfl
@[simp] theorem from__mk (k t y n f o a ta l) : (Nd.mk k t y n f o a ta l).from_ = f := rfl
@[simp] theorem to_mk (k t y n f o a ta l) : (Nd.mk k t y n f o a ta l).to = o := rfl
@[simp] theorem at__mk (k t y n f o a ta l) : (Nd.mk k t y n f o a ta l).at_ = a := rfl
@[simp] theorem typeAt_mk (k t y n f o a ta l) : (Nd.mk k t y n f o a ta l).typeAt = ta := rfl
@[simp] theorem kids_mk (k t y n f o a ta l) : (Nd.mk k t y n f o a ta l).kids = l := rfl
@[simp] theorem Nd.c0 (x : Nd) : x.cells[0]? = some (.int .i64 x.kind) := by simp [Nd.cells_eq]
@[simp] theorem Nd.c1 (x : Nd) : x.cells[1]? = some (.str x.text) := by simp [Nd.cells_eq]
@[simp] theorem Nd.c2 (x : Nd) : x.cells[2]? = some (.str x.type) := by simp [Nd.cells_eq]
@[simp] theorem Nd.c3 (x : Nd) : x.cells[3]? = some (.int .i64 x.n) := by simp [Nd.cells_eq]
@[simp] theorem Nd.c4 (x : Nd) : x.cells[4]? = some (.int .i64 x.from_) := by simp [Nd.cells_eq]
@[simp] theorem Nd.c5 (x : Nd) : x.cells[5]? = some (.int .i64 x.to) := by simp [Nd.cells_eq]
@[simp] theorem Nd.c6 (x : Nd) : x.cells[6]? = some (.int .i64 x.at_) := by simp [Nd.cells_eq]
@[simp] theorem Nd.c7 (x : Nd) : x.cells[7]? = some (.int .i64 x.typeAt) := by simp [Nd.cells_eq]
@[simp] theorem Nd.c8 (x : Nd) : x.cells[8]? = some (.sl 0 (Nd.rows x.kids)) := by simp [Nd.cells_eq]
@[simp] theorem Nd.g0 (x : Nd) (h : 0 < x.cells.length) : x.cells[0] = .int .i64 x.kind := by have := Nd.c0 x; rw [List.getElem?_eq_getElem h] at this; exact Option.some.inj this
@[simp] theorem Nd.g1 (x : Nd) (h : 1 < x.cells.length) : x.cells[1] = .str x.text := by have := Nd.c1 x; rw [List.getElem?_eq_getElem h] at this; exact Option.some.inj this
@[simp] theorem Nd.g2 (x : Nd) (h : 2 < x.cells.length) : x.cells[2] = .str x.type := by have := Nd.c2 x; rw [List.getElem?_eq_getElem h] at this; exact Option.some.inj this
@[simp] theorem Nd.g3 (x : Nd) (h : 3 < x.cells.length) : x.cells[3] = .int .i64 x.n := by have := Nd.c3 x; rw [List.getElem?_eq_getElem h] at this; exact Option.some.inj this
@[simp] theorem Nd.g4 (x : Nd) (h : 4 < x.cells.length) : x.cells[4] = .int .i64 x.from_ := by have := Nd.c4 x; rw [List.getElem?_eq_getElem h] at this; exact Option.some.inj this
@[simp] theorem Nd.g5 (x : Nd) (h : 5 < x.cells.length) : x.cells[5] = .int .i64 x.to := by have := Nd.c5 x; rw [List.getElem?_eq_getElem h] at this; exact Option.some.inj this
@[simp] theorem Nd.g6 (x : Nd) (h : 6 < x.cells.length) : x.cells[6] = .int .i64 x.at_ := by have := Nd.c6 x; rw [List.getElem?_eq_getElem h] at this; exact Option.some.inj this
@[simp] theorem Nd.g7 (x : Nd) (h : 7 < x.cells.length) : x.cells[7] = .int .i64 x.typeAt := by have := Nd.c7 x; rw [List.getElem?_eq_getElem h] at this; exact Option.some.inj this
@[simp] theorem Nd.g8 (x : Nd) (h : 8 < x.cells.length) : x.cells[8] = .sl 0 (Nd.rows x.kids) := by have := Nd.c8 x; rw [List.getElem?_eq_getElem h] at this; exact Option.some.inj this
@[simp] theorem Nd.take9 (x : Nd) : x.cells.take 9 = x.cells := by simp [Nd.cells_eq]
@[simp] theorem Nd.drop9 (x : Nd) : x.cells.drop 9 = [] := by simp [Nd.cells_eq]
@[simp] theorem Nd.er_cells (x : Nd) : x.cells.map er1 = x.cells := by simp [Nd.cells_eq, er1]
@[simp] theorem Nd.frz_cells (s : AS) (x : Nd) : x.cells.map (frz1 s) = x.cells := by simp [Nd.cells_eq, frz1]
@[simp] theorem Nd.er_rows (l : List Nd) : (Nd.rows l).map (List.map er1) = Nd.rows l := by rw [Nd.rows_map]; simp
@[simp] theorem Nd.zero_cells : [.int .i64 0, .str ByteArray.empty, .str ByteArray.empty, .int .i64 0, .int .i64 0, .int .i64 0, .int .i64 0, .int .i64 0, .sl 0 []] = (default : Nd).cells := rfl
noncomputable def cx : Cx := ⟨prog, fun _ => True, fun _ _ _ _ => trivial, by kernel_rfl⟩
@[simp] theorem cx_P : cx.P = prog := rfl
@[simp high] theorem Nd.idx {tk : Nat} {l : List Nd} {k : IntKind} {n : Int} : idxAddr prog 22 (.sl tk (Nd.rows l)) (.int k n) = if 0 ≤ n ∧ n < l.length then some (.cptr (l.getD n.toNat default).cells) else none := by
  simp only [idxAddr, T.elT_22, T.szOf_24, Nd.rows_length, Nd.rows_all, if_true]
  by_cases h : 0 ≤ n ∧ n < l.length
  · rw [if_pos h, if_pos h, Nd.rows_getD (by omega)]
  · rw [if_neg h, if_neg h]
mutual
theorem Nd.pu_cells : ∀ x : Nd, puL x.cells = true
  | .mk k t y n f o a ta l => by simp [Nd.cells, puL, pu, Nd.pu_rows l]
theorem Nd.pu_rows : ∀ l : List Nd, puLL (Nd.rows l) = true
  | [] => rfl
  | x :: l => by simp [Nd.rows, puLL, Nd.pu_cells x, Nd.pu_rows l]
end
attribute [simp] Nd.pu_rows Nd.pu_cells
theorem Nd.ind' {P : Nd → Prop} (h : ∀ k t y n f o a ta l, (∀ x ∈ l, P x) → P (.mk k t y n f o a ta l)) : ∀ x, P x
  | .mk k t y n f o a ta l => h k t y n f o a ta l (fun x hx => Nd.ind' h x)
  termination_by x => x
  decreasing_by (have := List.sizeOf_lt_of_mem hx; simp_wf; omega)
theorem Nd.ind {P : Nd → Prop} (h : ∀ x : Nd, (∀ z ∈ x.kids, P z) → P x) : ∀ x, P x := Nd.ind' (fun k t y n f o a ta l hl => h (.mk k t y n f o a ta l) hl)
theorem Nd.lens {N nx t : Nat} {m : List (Nat × AV)} {ob : Obs} {lv : Lvs} {lp : Lps} {x : Nd} (h : Lens (S N m ob lv nx lp)) (ht : look m t = some (.agg x.cells)) : (x.kids.length : Int) ≤ 9223372036854775807 := by
  have := h.agg t x.cells 8 0 (Nd.rows x.kids) ht (Nd.c8 x)
  simpa using this
theorem Nd.mem_kids (x : Nd) : AV.sl 0 (Nd.rows x.kids) ∈ x.cells := by rw [Nd.cells_eq]; simp
theorem Nd.sub_kids (x : Nd) : Sub (.agg x.cells) (.sl 0 (Nd.rows x.kids)) := .agg (by rw [Nd.cells_eq]; simp) (.self _)
theorem Nd.sub_row {k : Nat} {l : List Nd} {x : Nd} (hx : x ∈ l) {y : AV} (h : Sub (.agg x.cells) y) (hy : y ≠ .agg x.cells) : Sub (.sl k (Nd.rows l)) y := by
  cases h with
  | self => exact absurd rfl hy
  | agg hc hs => exact .sl (el := x.cells) (by rw [Nd.rows_map]; exact List.mem_map_of_mem hx) hc hs
@[simp] theorem Nd.fold (k : Int) (t y : ByteArray) (n f o a ta : Int) (l : List Nd) : [AV.int .i64 k, .str t, .str y, .int .i64 n, .int .i64 f, .int .i64 o, .int .i64 a, .int .i64 ta, .sl 0 (Nd.rows l)] = (Nd.mk k t y n f o a ta l).cells := rfl
@[simp] theorem Nd.fold0 (k : Int) (t y : ByteArray) (n f o a ta : Int) : [AV.int .i64 k, .str t, .str y, .int .i64 n, .int .i64 f, .int .i64 o, .int .i64 a, .int .i64 ta, .sl 0 []] = (Nd.mk k t y n f o a ta []).cells := rfl
@[simp] theorem Nd.fold1 (k : Int) (t y : ByteArray) (n f o a ta : Int) (x : Nd) : [AV.int .i64 k, .str t, .str y, .int .i64 n, .int .i64 f, .int .i64 o, .int .i64 a, .int .i64 ta, .sl 0 [x.cells]] = (Nd.mk k t y n f o a ta [x]).cells := rfl
@[simp] theorem Nd.mk_default : Nd.mk 0 ByteArray.empty ByteArray.empty 0 0 0 0 0 [] = default := rfl
end Go.Proofs.AL
namespace Go.Proofs.AL
open Go Go.RowKit Go.Proofs.Try
set_option maxRecDepth 100000
mutual
def Nd.all (kind : Int) : Nd → List Nd
  | .mk k t y n f o a ta l => (if kind = 0 ∨ k = kind then [Nd.mk k t y n f o a ta l] else []) ++ Nd.allL kind l
def Nd.allL (kind : Int) : List Nd → List Nd
  | [] => []
  | x :: l => x.all kind ++ Nd.allL kind l
end
mutual
def Nd.count : Nd → Nat
  | .mk _ _ _ _ _ _ _ _ l => Nd.countL l + 1
def Nd.countL : List Nd → Nat
  | [] => 0
  | x :: l => x.count + Nd.countL l
end
theorem Nd.all_eq (kind : Int) (x : Nd) : x.all kind = (if kind = 0 ∨ x.kind = kind then [x] else []) ++ Nd.allL kind x.kids := by cases x; rw [Nd.all]; rfl
theorem Nd.count_eq (x : Nd) : x.count = Nd.countL x.kids + 1 := by cases x; rw [Nd.count]; rfl
mutual
theorem Nd.all_le (kind : Int) : ∀ x : Nd, (x.all kind).length ≤ x.count
  | .mk k t y n f o a ta l => by
    have := Nd.allL_le kind l
    rw [Nd.all, Nd.count]
    split <;> simp <;> omega
theorem Nd.allL_le (kind : Int) : ∀ l : List Nd, (Nd.allL kind l).length ≤ Nd.countL l
  | [] => by simp [Nd.allL]
  | x :: l => by
    have h1 := Nd.all_le kind x
    have h2 := Nd.allL_le kind l
    simp [Nd.allL, Nd.countL]; omega
end
mutual
theorem Nd.all0 : ∀ x : Nd, (x.all 0).length = x.count
  | .mk k t y n f o a ta l => by
    have := Nd.allL0 l
    rw [Nd.all, Nd.count]
    simp; omega
theorem Nd.allL0 : ∀ l : List Nd, (Nd.allL 0 l).length = Nd.countL l
  | [] => by simp [Nd.allL, Nd.countL]
  | x :: l => by
    have h1 := Nd.all0 x
    have h2 := Nd.allL0 l
    simp [Nd.allL, Nd.countL]; omega
end
theorem Nd.countL_append : ∀ a b : List Nd, Nd.countL (a ++ b) = Nd.countL a + Nd.countL b
  | [], b => by simp [Nd.countL]
  | x :: a, b => by simp [Nd.countL, Nd.countL_append a b]; omega
theorem Nd.allL_append (kind : Int) : ∀ a b : List Nd, Nd.allL kind (a ++ b) = Nd.allL kind a ++ Nd.allL kind b
  | [], b => by simp [Nd.allL]
  | x :: a, b => by simp [Nd.allL, Nd.allL_append kind a b]
theorem Nd.allL_take (kind : Int) {l : List Nd} {i : Nat} (h : i < l.length) : Nd.allL kind (l.take (i + 1)) = Nd.allL kind (l.take i) ++ l[i].all kind := by
  rw [List.take_succ_eq_append_getElem h, Nd.allL_append]; simp [Nd.allL]
theorem Nd.countL_take {l : List Nd} {i : Nat} (h : i < l.length) : Nd.countL (l.take (i + 1)) = Nd.countL (l.take i) + l[i].count := by
  rw [List.take_succ_eq_append_getElem h, Nd.countL_append]; simp [Nd.countL]
theorem Nd.countL_take_le (l : List Nd) (i : Nat) : Nd.countL (l.take i) ≤ Nd.countL l := by
  conv => rhs; rw [← List.take_append_drop i l, Nd.countL_append]
  omega
theorem Nd.count_get {l : List Nd} {i : Nat} (h : i < l.length) : l[i].count ≤ Nd.countL l := by
  have h1 := Nd.countL_take h
  have h2 := Nd.countL_take_le l (i + 1)
  omega
theorem b104 {n : Nat} (h : n ≤ 10000000) : n * 104 ≤ 140737488355328 := by omega
theorem all_ok (x : Nd) (kind : Int) (hb : x.count ≤ 10000000) : ACall cx 19 [.agg x.cells, .int .i64 kind] (.sl 0 (Nd.rows (x.all kind))) (some (0, 24)) := by
  induction x using Nd.ind with | _ x ih
  refine ACall.wpl (C := cx) T.func_19 (by kernel_rfl) rfl (by rfl) (fun hL => ?_)
  have hlen := Nd.lens (x := x) (t := 0) hL (by simp)
  clear hL
  rw [Nd.count_eq] at hb
  simp [f19]
  refine split2_i (fun h1 => ?_) (fun h1 => ?_) <;> simp [h1]
  rotate_left
  refine split2_i (fun h2 => ?_) (fun h2 => ?_) <;> simp [h2]
  all_goals
    first
    | (refine loopK [2, 1] (fun (p : Nat × Nat) nx => p.1 ≤ x.kids.length ∧ p.2 ≠ 0 ∧ p.2 ≠ 2 ∧ p.2 < nx) (fun p => [(6, .int .i64 (p.1 : Nat)), (5, .sl p.2 (Nd.rows ((if kind = 0 ∨ x.kind = kind then [x] else []) ++ Nd.allL kind (x.kids.take p.1))))]) (fun _ => [x.cells]) (fun p => [(p.2, .ty 24)]) (fun p => x.kids.length - p.1) (0, 1) ⟨by simp, by simp, by simp, by simp⟩ ?hu [] rfl (by simp) ?_; case hu => clear ih; simp at h1; simp [Nd.allL, *]; done)
    | (refine loopK [2, 1] (fun (p : Nat × Nat) nx => p.1 ≤ x.kids.length ∧ p.2 ≠ 0 ∧ p.2 ≠ 2 ∧ p.2 < nx) (fun p => [(6, .int .i64 (p.1 : Nat)), (5, .sl p.2 (Nd.rows ((if kind = 0 ∨ x.kind = kind then [x] else []) ++ Nd.allL kind (x.kids.take p.1))))]) (fun _ => [x.cells]) (fun p => [(p.2, .ty 24)]) (fun p => x.kids.length - p.1) (0, 3) ⟨by simp, by simp, by simp, by simp⟩ ?hu [] rfl (by simp) ?_; case hu => clear ih; simp at h1; simp [Nd.allL, Nd.rows_one, *]; done)
    | (refine loopK [2, 1] (fun (p : Nat × Nat) nx => p.1 ≤ x.kids.length ∧ p.2 ≠ 0 ∧ p.2 ≠ 2 ∧ p.2 < nx) (fun p => [(6, .int .i64 (p.1 : Nat)), (5, .sl p.2 (Nd.rows ((if kind = 0 ∨ x.kind = kind then [x] else []) ++ Nd.allL kind (x.kids.take p.1))))]) (fun _ => [x.cells]) (fun p => [(p.2, .ty 24)]) (fun p => x.kids.length - p.1) (0, 3) ⟨by simp, by simp, by simp, by simp⟩ ?hu [] rfl (by simp) ?_; case hu => clear ih; simp at h1 h2; simp [Nd.allL, Nd.rows_one, *]; done)
    | (refine loopK [2, 1] (fun (p : Nat × Nat) nx => p.1 ≤ x.kids.length ∧ p.2 ≠ 0 ∧ p.2 ≠ 2 ∧ p.2 < nx) (fun p => [(6, .int .i64 (p.1 : Nat)), (5, .sl p.2 (Nd.rows ((if kind = 0 ∨ x.kind = kind then [x] else []) ++ Nd.allL kind (x.kids.take p.1))))]) (fun _ => [x.cells]) (fun p => [(p.2, .ty 24)]) (fun p => x.kids.length - p.1) (0, 1) ⟨by simp, by simp, by simp, by simp⟩ ?hu [] rfl (by simp) ?_; case hu => clear ih; simp at h1 h2; simp [Nd.allL, Nd.rows_one, *]; done)
    rintro ⟨i, k⟩ nx g ⟨hi, hk, hk2, hkn⟩ hnx -
    dsimp only at hi hk hk2 hkn
    simp
    refine split2_i (fun h3 => ?_) (fun h3 => ?_) <;> simp [h3]
    · simp at h3
      have c1 := Nd.count_get h3
      have c2 := Nd.countL_take h3
      have c3 := Nd.countL_take_le x.kids (i + 1)
      have c4 := Nd.allL_le kind (x.kids.take i)
      have c5 := Nd.all_le kind x.kids[i]
      simp [h3]
      refine callP_i (ih _ (List.getElem_mem _) (by omega)) ?_
      simp
      have c6 : ((if kind = 0 ∨ x.kind = kind then [x] else []) : List Nd).length ≤ 1 := by split <;> simp
      have hkn' : ¬ nx = k := by omega
      have hnx0 : ¬ nx = 0 := by omega
      simp [hk, hk2, hkn', hnx0]
      refine ⟨b104 (by omega), ?_⟩
      exact againK_i (i + 1, nx + 1) _ ⟨h3, by simp, by dsimp only; omega, by simp⟩ (by dsimp only; omega) (by simp [wrap64_i h3 hlen, Nd.allL_take kind h3]) rfl (by simp)
    · simp at h3
      have : i = x.kids.length := by omega
      subst this
      simp [Nd.all_eq kind x, hk, hk2, ownOf]
theorem count_ok (x : Nd) (hb : x.count ≤ 10000000) : ACall cx 14 [.agg x.cells] (.int .i64 x.count) none := by
  refine ACall.wpc (C := cx) T.func_14 (by kernel_rfl) rfl (by rfl) ?_
  simp [f14]
  refine callP_i (all_ok x 0 hb) ?_
  simp [Nd.all0]
mutual
def Nd.deep : Nd → Int → Bool
  | .mk _ _ _ _ _ _ _ _ l, most => if most ≤ 0 then true else Nd.deepL l (IntKind.i64.wrap (most - 1))
def Nd.deepL : List Nd → Int → Bool
  | [], _ => false
  | x :: l, most => x.deep most || Nd.deepL l most
end
theorem Nd.deep_eq (x : Nd) (most : Int) : x.deep most = if most ≤ 0 then true else Nd.deepL x.kids (IntKind.i64.wrap (most - 1)) := by cases x; rw [Nd.deep]; rfl
theorem Nd.deepL_drop {l : List Nd} {i : Nat} {most : Int} (h : i < l.length) : Nd.deepL (l.drop i) most = (l[i].deep most || Nd.deepL (l.drop (i + 1)) most) := by
  rw [List.drop_eq_getElem_cons h]; simp [Nd.deepL]
theorem deep_ok (x : Nd) (most : Int) : ACall cx 35 [.agg x.cells, .int .i64 most] (.bool (x.deep most)) none := by
  induction x using Nd.ind generalizing most with | _ x ih
  refine ACall.wpl (C := cx) T.func_35 (by kernel_rfl) rfl (by rfl) (fun hL => ?_)
  have hlen := Nd.lens (x := x) (t := 0) hL (by simp)
  clear hL
  simp [f35]
  refine split2_i (fun h1 => ?_) (fun h1 => ?_) <;> simp [h1]
  · clear ih; simp at h1; simp [Nd.deep_eq x, h1]
  refine loopK [2, 1] (fun i _ => i ≤ x.kids.length ∧ Nd.deepL (x.kids.drop i) (IntKind.i64.wrap (most - 1)) = Nd.deepL x.kids (IntKind.i64.wrap (most - 1))) (fun i => [(5, .int .i64 (i : Nat))]) (fun _ => [x.cells]) (fun _ => []) (fun i => x.kids.length - i) 0 ⟨by simp, by simp⟩ (by simp) [] rfl (by simp) ?_
  rintro i nx g ⟨hi, hd⟩ - -
  simp
  refine split2_i (fun h3 => ?_) (fun h3 => ?_) <;> simp [h3]
  · simp at h3
    simp [h3]
    refine callP_i (ih _ (List.getElem_mem _) _) ?_
    simp
    rw [Nd.deepL_drop h3] at hd
    refine split2_i (fun h4 => ?_) (fun h4 => ?_) <;> simp [h4]
    · clear ih; simp at h1; simp [h4] at hd; simp [Nd.deep_eq x, *]
    · simp [h4] at hd
      exact againK_i (i + 1) _ ⟨h3, hd⟩ (by omega) (by simp [wrap64_i h3 hlen]) rfl (by simp)
  · simp at h3
    have : i = x.kids.length := by omega
    subst this
    clear ih; simp at h1; simp [Nd.deepL] at hd; simp [Nd.deep_eq x, *]
theorem Nd.ext_iff (a b : Nd) : a = b ↔ a.from_ = b.from_ ∧ a.to = b.to ∧ a.at_ = b.at_ ∧ a.typeAt = b.typeAt ∧ a.kind = b.kind ∧ a.text = b.text ∧ a.type = b.type ∧ a.n = b.n ∧ a.kids = b.kids := by
  cases a; cases b; simp; constructor
  · rintro ⟨rfl, rfl, rfl, rfl, rfl, rfl, rfl, rfl, rfl⟩; simp
  · rintro ⟨rfl, rfl, rfl, rfl, rfl, rfl, rfl, rfl, rfl⟩; simp
noncomputable instance : DecidableEq Nd := fun _ _ => Classical.propDecidable _
theorem take_eq_succ {α : Type} {a b : List α} {i : Nat} (h1 : i < a.length) (h2 : i < b.length) (h : a.take i = b.take i) : (a.take (i + 1) = b.take (i + 1)) = (a[i] = b[i]) := by
  rw [List.take_succ_eq_append_getElem h1, List.take_succ_eq_append_getElem h2, h]; exact propext ⟨fun e => by have := List.append_cancel_left e; injection this, fun e => by rw [e]⟩
set_option maxHeartbeats 4000000 in
theorem exact_ok (a b : Nd) : ACall cx 20 [.agg a.cells, .agg b.cells] (.bool (decide (a = b))) none := by
  induction a using Nd.ind generalizing b with | _ a ih
  refine ACall.wpl (C := cx) T.func_20 (by kernel_rfl) rfl (by rfl) (fun hL => ?_)
  have hlen := Nd.lens (x := a) (t := 0) hL (by simp)
  have hlen' := Nd.lens (x := b) (t := 1) hL (by simp)
  clear hL
  simp [f20]
  repeat' ((with_reducible refine split2_i (fun h => ?_) (fun h => ?_)) <;> simp [h])
  any_goals (clear ih; simp_all [Nd.ext_iff a b]; done)
  · clear ih
    simp at h
    intro e; subst e; exact h rfl
  have h9 := h
  have hl : a.kids.length = b.kids.length := by simp at h9; omega
  refine loopK [2, 3] (fun i _ => i ≤ a.kids.length ∧ a.kids.take i = b.kids.take i) (fun i => [(5, .int .i64 (i : Nat))]) (fun _ => [a.cells, b.cells]) (fun _ => []) (fun i => a.kids.length - i) 0 ⟨by simp, by simp⟩ (by simp) [] rfl (by simp) ?_
  rintro i nx g ⟨hi, hd⟩ - -
  simp
  refine split2_i (fun h3 => ?_) (fun h3 => ?_) <;> simp [h3]
  · simp at h3
    have h3' : i < b.kids.length := by omega
    simp [h3, h3']
    refine callP_i (ih _ (List.getElem_mem _) _) ?_
    simp
    refine ⟨by kernel_rfl, ?_⟩
    have he := take_eq_succ h3 h3' hd
    refine split2_i (fun h4 => ?_) (fun h4 => ?_) <;> simp [h4]
    · simp at h4
      exact againK_i (i + 1) _ ⟨h3, by rw [he]; exact h4⟩ (by omega) (by simp [wrap64_i h3 hlen]) rfl (by simp)
    · clear ih
      simp at h4
      intro e
      subst e
      exact h4 rfl
  · clear ih
    simp at h3
    have : i = a.kids.length := by omega
    subst this
    have hk : a.kids = b.kids := by
      have := hd
      rw [List.take_length, hl, List.take_length] at this
      exact this
    simp_all [Nd.ext_iff a b]
end Go.Proofs.AL
namespace Go.Proofs.AL
open Go Go.RowKit Go.Proofs.Try
set_option maxRecDepth 100000
set_option linter.unusedSimpArgs false
mutual
def Nd.each (F : Nd → Nd) : Nd → Nd
  | .mk k t y n f o a ta l => F (.mk k t y n f o a ta (Nd.eachL F l))
def Nd.eachL (F : Nd → Nd) : List Nd → List Nd
  | [] => []
  | x :: l => x.each F :: Nd.eachL F l
end
def zNd : Nd := .mk 0 .empty .empty 0 0 0 0 0 []
def zRow : List AV := [.int .i64 0, .str .empty, .str .empty, .int .i64 0, .int .i64 0, .int .i64 0, .int .i64 0, .int .i64 0, .sl 1 []]
def plain1 (x : Nd) : Nd := .mk x.kind x.text x.type x.n 0 0 (-1) (-1) x.kids
theorem plain1_ok (x : Nd) : ACall cx 39 [.agg x.cells] (.agg (plain1 x).cells) none := by
  refine ACall.wpl (C := cx) T.func_39 (by kernel_rfl) rfl (by rfl) (fun hL => ?_)
  simp [f39]
  cases x
  simp only [plain1, Nd.cells]
  rfl
/-- A row of which so many elements are written. -/
def eRow (F : Nd → Nd) (l : List Nd) (i : Nat) : List (List AV) := Nd.rows ((l.take i).map (Nd.each F)) ++ List.replicate (l.length - i) zRow
theorem eRow_set {F : Nd → Nd} {l : List Nd} {i : Nat} (h : i < l.length) : (eRow F l i).set i (l[i].each F).cells = eRow F l (i + 1) := by
  unfold eRow
  have h1 : (Nd.rows ((l.take i).map (Nd.each F))).length = i := by simp; omega
  rw [List.set_append_right _ _ (by omega), h1, Nat.sub_self, show l.length - i = (l.length - (i + 1)) + 1 by omega, List.replicate_succ, List.set_cons_zero, List.take_succ_eq_append_getElem h, List.map_append, Nd.rows_append, List.append_assoc]
  rfl
theorem eRow_get {F : Nd → Nd} {l : List Nd} {i : Nat} (h : i < l.length) : (eRow F l i)[i]? = some zRow := by
  unfold eRow
  have h1 : (Nd.rows ((l.take i).map (Nd.each F))).length = i := by simp; omega
  rw [List.getElem?_append_right (by omega), h1, Nat.sub_self, List.getElem?_replicate, if_pos (by omega)]
theorem eRow_end {F : Nd → Nd} {l : List Nd} : eRow F l l.length = Nd.rows (l.map (Nd.each F)) := by
  unfold eRow
  rw [List.take_length, Nat.sub_self]
  simp
theorem Nd.len_count : ∀ l : List Nd, l.length ≤ Nd.countL l
  | [] => by simp
  | x :: l => by
    have := Nd.len_count l
    have h := Nd.count_eq x
    simp only [Nd.countL, List.length_cons]
    omega
set_option maxHeartbeats 4000000 in
theorem each_ok (g : FuncId) (cap : List AV) (hcap : cap.all isCp = true) (F : Nd → Nd) (hg : ∀ x : Nd, ACall cx g (.agg x.cells :: cap) (.agg (F x).cells) none) (x : Nd) (hb : x.count ≤ 10000000) : ACall cx 38 [.agg x.cells, .fn (.func g) [] cap] (.agg (x.each F).cells) none := by
  have cpu := cp_pu hcap
  have cpy := cp_isY hcap
  induction x using Nd.ind with | _ x ih
  refine ACall.wpr (C := cx) 24 T.func_38 (by kernel_rfl) rfl (by rfl) (fun hL => ?_)
  rw [Nd.count_eq] at hb
  have hk : x.kids.length ≤ 10000000 := by have := Nd.len_count x.kids; omega
  simp [f38]
  refine ⟨by omega, ?_⟩
  rw [show List.replicate x.kids.length _ = eRow F x.kids 0 by simp only [eRow, List.take_zero, List.map_nil, Nd.rows_nil, List.nil_append, Nat.sub_zero]; rfl]
  refine loopK [5, 13, 14, 1, 2, 4] (fun i _ => i ≤ x.kids.length) (fun i => [(15, .int .i64 (i : Nat))]) (fun _ => [x.cells, zRow]) (fun i => [(3, .row 24 (eRow F x.kids i)), (0, .ty 24)]) (fun i => x.kids.length - i) 0 (by simp) (by simp) [] rfl (by simp) ?_
  rintro i nx gg hi hnx -
  simp
  by_cases h3 : i < x.kids.length
  · have w : IntKind.i64.wrap ((i : Int) + 1) = ((i + 1 : Nat) : Int) := by rw [wrap64_in (by omega) (by omega)]; omega
    have c1 := Nd.count_get h3
    simp [h3, w, cpu, cpy]
    refine callP_i (ih _ (List.getElem_mem _) (by omega)) ?_
    simp [h3]
    rw [eRow_get h3]
    simp [zRow]
    rw [w, eRow_set h3]
    exact againK_i (i + 1) _ h3 (by omega) (by simp) rfl (by simp)
  · have he : i = x.kids.length := by omega
    subst he
    simp
    rw [show List.take 9 (List.take 8 x.cells ++ [AV.own 3 x.kids.length]) = [.int .i64 x.kind, .str x.text, .str x.type, .int .i64 x.n, .int .i64 x.from_, .int .i64 x.to, .int .i64 x.at_, .int .i64 x.typeAt, .own 3 x.kids.length] by rw [Nd.cells_eq]; rfl]
    simp [eRow_end]
    have hx : x.each F = F (.mk x.kind x.text x.type x.n x.from_ x.to x.at_ x.typeAt (x.kids.map (Nd.each F))) := by
      have hl : ∀ l : List Nd, Nd.eachL F l = l.map (Nd.each F) := fun l => by
        induction l with
        | nil => rfl
        | cons y l ih2 => rw [Nd.eachL, ih2]; rfl
      cases x
      rw [Nd.each, hl]
      rfl
    refine jcallP_i (JCall.ofA (res := .agg (x.each F).cells) (own := none) 3 rfl ?hp ?h) ?_
    case h =>
      rw [hx]
      have := hg (.mk x.kind x.text x.type x.n x.from_ x.to x.at_ x.typeAt (x.kids.map (Nd.each F)))
      simp [fzv, frz1, rowOf, er, er1, look, S, cp_fzv hcap, cp_er hcap]
      exact this
    case hp =>
      intro y hy
      rcases List.mem_cons.1 hy with rfl | hy
      · refine pu_ok ?_
        simp [fzv, frz1, rowOf, er, er1, look, S]
      · obtain ⟨cs, rfl, hc⟩ := cp_mem hcap hy
        refine pu_ok ?_
        simp [fzv, er, pu, hc]
    rintro _ _ ⟨rfl, rfl⟩
    rw [S_drop, S_ret rfl rfl rfl rfl]
    simp [zRow]
theorem plain_ok (x : Nd) (hb : x.count ≤ 10000000) : ACall cx 21 [.agg x.cells] (.agg (x.each plain1).cells) none := by
  refine ACall.wpl (C := cx) T.func_21 (by kernel_rfl) rfl (by rfl) (fun hL => ?_)
  simp [f21]
  refine callP_i (each_ok _ [] rfl plain1 plain1_ok x hb) ?_
  simp
end Go.Proofs.AL
namespace Go.Proofs.AL
open Go Go.RowKit Go.Proofs.Try
set_option maxRecDepth 100000
set_option linter.unusedSimpArgs false
mutual
def Nd.same : Nd → Nd → Bool
  | .mk k t y n _ _ _ _ l, b => decide (k = b.kind) && decide (t = b.text) && decide (y = b.type) && decide (n = b.n) && Nd.sameL l b.kids
def Nd.sameL : List Nd → List Nd → Bool
  | [], r => r.isEmpty
  | _ :: _, [] => false
  | x :: l, y :: r => x.same y && Nd.sameL l r
end
theorem Nd.same_eq (a b : Nd) : a.same b = (decide (a.kind = b.kind) && decide (a.text = b.text) && decide (a.type = b.type) && decide (a.n = b.n) && Nd.sameL a.kids b.kids) := by cases a; rw [Nd.same]; rfl
theorem Nd.sameL_len : ∀ {a b : List Nd}, Nd.sameL a b = true → a.length = b.length
  | [], b, h => by simp [Nd.sameL] at h; simp [h]
  | _ :: _, [], h => by simp [Nd.sameL] at h
  | x :: l, y :: r, h => by simp [Nd.sameL] at h; simp [Nd.sameL_len h.2]
theorem Nd.sameL_drop {a b : List Nd} {i : Nat} (h1 : i < a.length) (h2 : i < b.length) : Nd.sameL (a.drop i) (b.drop i) = (a[i].same b[i] && Nd.sameL (a.drop (i + 1)) (b.drop (i + 1))) := by
  rw [List.drop_eq_getElem_cons h1, List.drop_eq_getElem_cons h2, Nd.sameL]
theorem eqf_ok (a b : List Nd) (ih : ∀ x ∈ a, ∀ y : Nd, ACall cx 11 [.agg x.cells, .agg y.cells] (.bool (x.same y)) none) : ACall cx 36 [.sl 0 (Nd.rows a), .sl 0 (Nd.rows b), .fn (.func 11) [] []] (.bool (Nd.sameL a b)) none := by
  refine ACall.wpl (C := cx) T.func_36 (by kernel_rfl) rfl (by rfl) (fun hL => ?_)
  have hlen : (a.length : Int) ≤ 9223372036854775807 := by simpa using hL.tm 0 0 (Nd.rows a) (by simp)
  clear hL
  simp [f36]
  refine split2_i (fun h1 => ?_) (fun h1 => ?_) <;> simp [h1]
  · simp at h1
    cases h : Nd.sameL a b
    · rfl
    · exact absurd (by exact_mod_cast Nd.sameL_len h) h1
  have hl : a.length = b.length := by simp at h1; omega
  refine loopK [15, 16, 1, 2] (fun i _ => i ≤ a.length ∧ Nd.sameL (a.drop i) (b.drop i) = Nd.sameL a b) (fun i => [(17, .int .i64 (i : Nat))]) (fun _ => []) (fun _ => []) (fun i => a.length - i) 0 ⟨by simp, by simp⟩ (by simp) [] rfl (by simp) ?_
  rintro i nx g ⟨hi, hd⟩ - -
  simp
  refine split2_i (fun h3 => ?_) (fun h3 => ?_) <;> simp [h3]
  · simp at h3
    have h3' : i < b.length := by omega
    simp [h3, h3']
    refine callP_i (ih _ (List.getElem_mem _) _) ?_
    simp
    rw [Nd.sameL_drop h3 h3'] at hd
    refine split2_i (fun h4 => ?_) (fun h4 => ?_) <;> simp [h4]
    · simp [h4] at hd
      exact againK_i (i + 1) _ ⟨h3, hd⟩ (by omega) (by simp [wrap64_i h3 hlen]) rfl (by simp)
    · simp [h4] at hd
      simpa using hd
  · simp at h3
    have : i = a.length := by omega
    subst this
    rw [List.drop_length, hl, List.drop_length] at hd
    simpa [Nd.sameL] using hd
theorem nsame_ok (a b : Nd) : ACall cx 11 [.agg a.cells, .agg b.cells] (.bool (a.same b)) none := by
  induction a using Nd.ind generalizing b with | _ a ih
  refine ACall.wpc (C := cx) T.func_11 (by kernel_rfl) rfl (by rfl) ?_
  simp [f11]
  rw [Nd.same_eq]
  repeat' ((with_reducible refine split2_i (fun h => ?_) (fun h => ?_)) <;> simp [h])
  any_goals (clear ih; simp_all; done)
  refine callP_i (eqf_ok _ _ ih) ?_
  clear ih
  simp_all
theorem refSame_ok (a b : Nd) : ACall cx 12 [.agg a.cells, .agg b.cells] (.bool (a.same b)) none := by
  induction a using Nd.ind generalizing b with | _ a ih
  refine ACall.wpl (C := cx) T.func_12 (by kernel_rfl) rfl (by rfl) (fun hL => ?_)
  have hlen := Nd.lens (x := a) (t := 0) hL (by simp)
  clear hL
  simp [f12]
  rw [Nd.same_eq]
  repeat' ((with_reducible refine split2_i (fun h => ?_) (fun h => ?_)) <;> simp [h])
  any_goals (clear ih; simp_all; done)
  · clear ih
    simp at h
    intros
    cases h' : Nd.sameL a.kids b.kids
    · rfl
    · exact absurd (by exact_mod_cast Nd.sameL_len h') h
  have h9 := h
  have hl : a.kids.length = b.kids.length := by simp at h9; omega
  refine loopK [2, 3] (fun i _ => i ≤ a.kids.length ∧ Nd.sameL (a.kids.drop i) (b.kids.drop i) = Nd.sameL a.kids b.kids) (fun i => [(5, .int .i64 (i : Nat))]) (fun _ => [a.cells, b.cells]) (fun _ => []) (fun i => a.kids.length - i) 0 ⟨by simp, by simp⟩ (by simp) [] rfl (by simp) ?_
  rintro i nx g ⟨hi, hd⟩ - -
  simp
  refine split2_i (fun h3 => ?_) (fun h3 => ?_) <;> simp [h3]
  · simp at h3
    have h3' : i < b.kids.length := by omega
    simp [h3, h3']
    refine callP_i (ih _ (List.getElem_mem _) _) ?_
    simp
    refine ⟨by kernel_rfl, ?_⟩
    rw [Nd.sameL_drop h3 h3'] at hd
    refine split2_i (fun h4 => ?_) (fun h4 => ?_) <;> simp [h4]
    · simp [h4] at hd
      exact againK_i (i + 1) _ ⟨h3, hd⟩ (by omega) (by simp [wrap64_i h3 hlen]) rfl (by simp)
    · clear ih
      simp [h4] at hd
      simp_all
  · clear ih
    simp at h3
    have : i = a.kids.length := by omega
    subst this
    rw [List.drop_length, hl, List.drop_length] at hd
    simp_all [Nd.sameL]
mutual
def Nd.depth : Nd → Nat
  | .mk _ _ _ _ _ _ _ _ l => Nd.depthL l + 1
def Nd.depthL : List Nd → Nat
  | [] => 0
  | x :: l => max x.depth (Nd.depthL l)
end
theorem Nd.depth_eq (x : Nd) : x.depth = Nd.depthL x.kids + 1 := by cases x; rw [Nd.depth]; rfl
mutual
theorem Nd.depth_le : ∀ x : Nd, x.depth ≤ x.count
  | .mk _ _ _ _ _ _ _ _ l => by have := Nd.depthL_le l; rw [Nd.depth, Nd.count]; omega
theorem Nd.depthL_le : ∀ l : List Nd, Nd.depthL l ≤ Nd.countL l
  | [] => by simp [Nd.depthL, Nd.countL]
  | x :: l => by
    have h1 := Nd.depth_le x
    have h2 := Nd.depthL_le l
    simp only [Nd.depthL, Nd.countL]; omega
end
theorem Nd.depthL_append : ∀ (a b : List Nd), Nd.depthL (a ++ b) = max (Nd.depthL a) (Nd.depthL b)
  | [], b => by simp [Nd.depthL]
  | x :: a, b => by simp [Nd.depthL, Nd.depthL_append a b, Nat.max_assoc]
theorem Nd.depthL_take {l : List Nd} {i : Nat} (h : i < l.length) : Nd.depthL (l.take (i + 1)) = max (Nd.depthL (l.take i)) l[i].depth := by
  rw [List.take_succ_eq_append_getElem h, Nd.depthL_append]; simp [Nd.depthL]
theorem Nd.depthL_take_le (l : List Nd) (i : Nat) : Nd.depthL (l.take i) ≤ Nd.depthL l := by
  conv => rhs; rw [← List.take_append_drop i l, Nd.depthL_append]
  omega
theorem Nd.depth_get {l : List Nd} {i : Nat} (h : i < l.length) : l[i].depth ≤ Nd.depthL l := by
  have h1 := Nd.depthL_take h
  have h2 := Nd.depthL_take_le l (i + 1)
  omega
theorem depth_ok (x : Nd) (hb : x.count ≤ 10000000) : ACall cx 15 [.agg x.cells] (.int .i64 (x.depth : Nat)) none := by
  induction x using Nd.ind with | _ x ih
  refine ACall.wpl (C := cx) T.func_15 (by kernel_rfl) rfl (by rfl) (fun hL => ?_)
  have hlen := Nd.lens (x := x) (t := 0) hL (by simp)
  clear hL
  have hd := Nd.depth_le x
  rw [Nd.count_eq] at hb
  rw [Nd.depth_eq, Nd.count_eq] at hd
  simp [f15]
  refine loopK [7, 8] (fun i _ => i ≤ x.kids.length) (fun i => [(9, .int .i64 (i : Nat)), (3, .int .i64 (Nd.depthL (x.kids.take i) : Nat))]) (fun _ => [x.cells]) (fun _ => []) (fun i => x.kids.length - i) 0 (by simp) (by simp [Nd.depthL]) [] rfl (by simp) ?_
  rintro i nx g hi - -
  simp
  refine split2_i (fun h3 => ?_) (fun h3 => ?_) <;> simp [h3]
  · simp at h3
    have c1 := Nd.count_get h3
    simp [h3]
    refine callP_i (ih _ (List.getElem_mem _) (by omega)) ?_
    simp
    have e := Nd.depthL_take h3
    have e2 : (if Nd.depthL (x.kids.take i) < x.kids[i].depth then (x.kids[i].depth : Int) else (Nd.depthL (x.kids.take i) : Int)) = ((Nd.depthL (x.kids.take (i + 1)) : Nat) : Int) := by rw [e]; split <;> omega
    exact againK_i (i + 1) _ h3 (by omega) (by simp [wrap64_i h3 hlen, e2]) rfl (by simp)
  · simp at h3
    have : i = x.kids.length := by omega
    subst this
    simp [Nd.depth_eq x]
    rw [wrap64_in (by omega) (by omega)]
theorem refDepth_ok (x : Nd) (hb : x.count ≤ 10000000) : ACall cx 16 [.agg x.cells] (.int .i64 (x.depth : Nat)) none := by
  induction x using Nd.ind with | _ x ih
  refine ACall.wpl (C := cx) T.func_16 (by kernel_rfl) rfl (by rfl) (fun hL => ?_)
  have hlen := Nd.lens (x := x) (t := 0) hL (by simp)
  clear hL
  have hd := Nd.depth_le x
  rw [Nd.count_eq] at hb
  rw [Nd.depth_eq, Nd.count_eq] at hd
  simp [f16]
  refine loopK [1] (fun i _ => i ≤ x.kids.length) (fun i => [(4, .int .i64 (i : Nat)), (3, .int .i64 (Nd.depthL (x.kids.take i) : Nat))]) (fun _ => [x.cells]) (fun _ => []) (fun i => x.kids.length - i) 0 (by simp) (by simp [Nd.depthL]) [] rfl (by simp) ?_
  rintro i nx g hi - -
  simp
  refine split2_i (fun h3 => ?_) (fun h3 => ?_) <;> simp [h3]
  · simp at h3
    have c1 := Nd.count_get h3
    simp [h3]
    refine callP_i (ih _ (List.getElem_mem _) (by omega)) ?_
    simp
    have e := Nd.depthL_take h3
    have e2 : (if Nd.depthL (x.kids.take i) < x.kids[i].depth then (x.kids[i].depth : Int) else (Nd.depthL (x.kids.take i) : Int)) = ((Nd.depthL (x.kids.take (i + 1)) : Nat) : Int) := by rw [e]; split <;> omega
    exact againK_i (i + 1) _ h3 (by omega) (by simp [wrap64_i h3 hlen, e2]) rfl (by simp)
  · simp at h3
    have : i = x.kids.length := by omega
    subst this
    simp [Nd.depth_eq x]
    rw [wrap64_in (by omega) (by omega)]
end Go.Proofs.AL
