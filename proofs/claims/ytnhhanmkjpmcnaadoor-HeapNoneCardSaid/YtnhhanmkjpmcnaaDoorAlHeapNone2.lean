/- What the functions that the law HeapNone reaches compute, and the law (part 2). -/
import Derived.Test.YtnhhanmkjpmcnaaDoorAlHeapNone1
namespace Go.Proofs.AL
open Go Go.RowKit Go.Proofs.Tryd
set_option maxRecDepth 100000
set_option linter.unusedSimpArgs false
/-- Where a heap lies. -/
abbrev hob2 (x0 x1 : List AV) (l : List Fld) (k : Nat) (cl : List ByteArray) (g : Obs) : Obs := x0 :: x1 :: [.mpo (keysOf l) (valsOf l)] :: [.sl k (strs cl), .mp 2] :: g
section
variable {x0 x1 : List AV} {l : List Fld} {g : Obs} {lv : Lvs} {nx : Nat} {lp : Lps} {N : Nat} {m : List (Nat × AV)} {k : Nat} {cl : List ByteArray}
theorem object_j2 (a b : Int) : JCall cx 25 [.ptr 3 0, .agg [.int .i64 a, .int .i64 b]] (S N m (hob2 x0 x1 l k cl g) lv nx lp) (Rd (.bool (isObj cl a b)) (hob2 x0 x1 l k cl g) lv nx lp) := by
  refine JCall.wpc (C := cx) T.func_25 (by kernel_rfl) rfl (by rfl) (fun hL => ?_)
  clear hL
  by_cases e1 : a = 3
  · by_cases e2 : 1 ≤ b
    · simp [f25, e1, e2]
      refine ⟨by kernel_rfl, ?_⟩
      exact ⟨by simp [isObj, e2], _, rfl, rfl, rfl, rfl⟩
    · simp [f25, e1, e2]
      refine ⟨by kernel_rfl, ?_⟩
      exact ⟨by simp [isObj, e2], _, rfl, rfl, rfl, rfl⟩
  · have e1' : (a == 3) = false := by simp [e1]
    simp [f25, e1']
    refine ⟨by kernel_rfl, ?_⟩
    exact ⟨by simp [isObj, e1], _, rfl, rfl, rfl, rfl⟩
theorem many_j2 : JCall cx 18 [.ptr 3 0] (S N m (hob2 x0 x1 l k cl g) lv nx lp) (Rd (.int .i64 cl.length) (hob2 x0 x1 l k cl g) lv nx lp) := by
  refine JCall.wpc (C := cx) T.func_18 (by kernel_rfl) rfl (by rfl) (fun hL => ?_)
  clear hL
  simp [f18]
  exact ⟨rfl, [], by simp, rfl, rfl, rfl⟩
theorem class_j2 (a b : Int) (hcl : cl.length ≤ 1000000) : JCall cx 16 [.ptr 3 0, .agg [.int .i64 a, .int .i64 b]] (S N m (hob2 x0 x1 l k cl g) lv nx lp) (Rd (classV cl a b) (hob2 x0 x1 l k cl g) lv nx lp) := by
  refine JCall.wpc (C := cx) T.func_16 (by kernel_rfl) rfl (by rfl) (fun hL => ?_)
  clear hL
  simp [f16]
  refine jcallP_i (object_j2 a b (g := g ++ [[.int .i64 a, .int .i64 b]])) ?_
  rintro _ s2 ⟨rfl, rest, e1, e2, e3, e4⟩
  rw [S_ret e1 e2 e3 e4]
  by_cases h : isObj cl a b = true
  · have h' := h
    simp [isObj] at h'
    obtain ⟨⟨rfl, h2⟩, h3⟩ := h'
    have w : IntKind.i64.wrap (b - 1) = b - 1 := wrap64_in (by omega) (by omega)
    simp [h, w, show 1 ≤ b by omega, show b - 1 < cl.length by omega]
    refine ⟨by kernel_rfl, ?_⟩
    exact ⟨by simp [classV, h], _, rfl, rfl, rfl, rfl⟩
  · simp [h]
    exact ⟨by simp [classV, h]; rfl, _, rfl, rfl, rfl, rfl⟩
theorem at_j2 (a b : Int) (s : ByteArray) : JCall cx 23 [.ptr 3 0, .agg [.int .i64 a, .int .i64 b], .str s] (S N m (hob2 x0 x1 l k cl g) lv nx lp) (Rd (.tup [.agg (atV cl a b s), .int .i64 (which cl a b).2]) (hob2 x0 x1 l k cl g) lv nx lp) := by
  refine JCall.wpc (C := cx) T.func_23 (by kernel_rfl) rfl (by rfl) (fun hL => ?_)
  clear hL
  simp [f23]
  refine jcallP_i (object_j2 a b (g := g ++ [[.int .i64 a, .int .i64 b], [.int .i64 0, .str .empty]])) ?_
  rintro _ s2 ⟨rfl, rest, e1, e2, e3, e4⟩
  rw [S_ret e1 e2 e3 e4]
  by_cases h : isObj cl a b = true
  · simp [h]
    exact ⟨by simp [which, atV, h], _, rfl, rfl, rfl, rfl⟩
  · simp [h]
    by_cases h0 : a = 0
    · simp [h0]
      subst h0
      exact ⟨by simp [which, atV, isObj], _, rfl, rfl, rfl, rfl⟩
    · by_cases h3 : a = 3
      · subst h3
        simp
        exact ⟨by simp [which, atV, h], _, rfl, rfl, rfl, rfl⟩
      · by_cases h1 : a = 1 ∧ b = 0
        · obtain ⟨rfl, rfl⟩ := h1
          simp
          exact ⟨by simp [which, atV, isObj], _, rfl, rfl, rfl, rfl⟩
        · have n0 : (a == 0) = false := by simp [h0]
          have n3 : (a == 3) = false := by simp [h3]
          have n1 : (a == 1 && b == 0) = false := by
            rw [Bool.and_eq_false_iff]
            by_cases e : a = 1
            · exact .inr (by simp; intro e2; exact h1 ⟨e, e2⟩)
            · exact .inl (by simp [e])
          simp [n0, n3, n1]
          exact ⟨by simp [which, atV, h, h0, h3, h1], _, rfl, rfl, rfl, rfl⟩
theorem get_j2 (a b : Int) (s ty : ByteArray) : JCall cx 12 [.ptr 3 0, .agg [.int .i64 a, .int .i64 b], .str s, .str ty] (S N m (hob2 x0 x1 l k cl g) lv nx lp) (Rd (getV cl l a b s ty) (hob2 x0 x1 l k cl g) lv nx lp) := by
  refine JCall.wpc (C := cx) T.func_12 (by kernel_rfl) rfl (by rfl) (fun hL => ?_)
  clear hL
  simp [f12]
  refine jcallP_i (at_j2 a b s (g := g ++ [[.int .i64 a, .int .i64 b], [.int .i64 0, .int .i64 0]])) ?_
  rintro _ s2 ⟨rfl, rest, e1, e2, e3, e4⟩
  rw [S_ret e1 e2 e3 e4]
  by_cases h : (which cl a b).2 = 0
  · have hat : atV cl a b s = [.int .i64 (which cl a b).1, .str s] := by simp [atV, h]
    simp [hat, h, -mget, mget_key]
    cases hl : lookK l ((which cl a b).1, s) with
    | none =>
      simp [valV]
      refine ⟨?_, ?_⟩
      · rw [show List.length g + (rest.length + 1 + 1 + 1) = List.length g + rest.length + 3 by omega, show List.length g + (rest.length + 1 + 1) = List.length g + rest.length + 2 by omega]
        generalize List.length g + rest.length = q
        revert q
        refine psafe_all 4 ?_ ?_
        · intro q; simp [Cls.sh] <;> omega
        · kernel_rfl
      refine callP_i (first_ok ty) ?_
      simp
      exact ⟨by simp [getV, h, hl, valV], _, rfl, rfl, rfl, rfl⟩
    | some v =>
      simp [valV]
      refine ⟨?_, ?_⟩
      · rw [show List.length g + (rest.length + 1 + 1 + 1) = List.length g + rest.length + 3 by omega, show List.length g + (rest.length + 1 + 1) = List.length g + rest.length + 2 by omega]
        generalize List.length g + rest.length = q
        revert q
        refine psafe_all 4 ?_ ?_
        · intro q; simp [Cls.sh] <;> omega
        · kernel_rfl
      exact ⟨by simp [getV, h, hl, valV], _, rfl, rfl, rfl, rfl⟩
  · have hb : ((which cl a b).2 != 0) = true := by simp [h]
    have hat : atV cl a b s = [.int .i64 0, .str .empty] := by simp [atV, h]
    simp [hat, hb]
    exact ⟨by simp [getV, h, valV], _, rfl, rfl, rfl, rfl⟩
theorem set_j2 (a b : Int) (s : ByteArray) (x y : Int) : JCall cx 14 [.ptr 3 0, .agg [.int .i64 a, .int .i64 b], .str s, .agg [.int .i64 x, .int .i64 y]] (S N m (hob2 x0 x1 l k cl g) lv nx lp) (Rd (.int .i64 (which cl a b).2) (hob2 x0 x1 (setF cl l a b s (x, y)) k cl g) lv nx lp) := by
  refine JCall.wpc (C := cx) T.func_14 (by kernel_rfl) rfl (by rfl) (fun hL => ?_)
  clear hL
  simp [f14]
  refine jcallP_i (at_j2 a b s (g := g ++ [[.int .i64 a, .int .i64 b], [.int .i64 x, .int .i64 y]])) ?_
  rintro _ s2 ⟨rfl, rest, e1, e2, e3, e4⟩
  rw [S_ret e1 e2 e3 e4]
  by_cases h : (which cl a b).2 = 0
  · have hat : atV cl a b s = [.int .i64 (which cl a b).1, .str s] := by simp [atV, h]
    simp [hat, h, -mput, mput_key]
    refine ⟨?_, ?_⟩
    · kernel_rfl
    · exact ⟨by simp [h], _, by simp [setF, h]; rfl, rfl, rfl, rfl⟩
  · have hb : ((which cl a b).2 == 0) = false := by simp [h]
    have hat : atV cl a b s = [.int .i64 0, .str .empty] := by simp [atV, h]
    simp [hat, hb]
    exact ⟨rfl, _, by simp [setF, h]; rfl, rfl, rfl, rfl⟩
theorem make_j2 (c : ByteArray) (hk : k ≠ 0) (hk2 : k ≠ 2) (hkn : k < nx) (hnx : 3 ≤ nx) (hcl : cl.length ≤ 10000) (hlv : look lv k = some (.ty 9)) (hl0 : look lv 0 = none) : JCall cx 9 [.ptr 3 0, .str c] (S N m (hob2 x0 x1 l k cl g) lv nx lp)
    (fun r s2 => if cl.length < 10000 then Rd (.tup [.agg [.int .i64 3, .int .i64 (cl.length + 1)], .int .i64 0]) (hob2 x0 x1 l nx (cl ++ [c]) g) ((nx, .ty 9) :: rmv k lv) (nx + 1) lp r s2 else Rd (.tup [.agg [.int .i64 0, .int .i64 0], .int .i64 2]) (hob2 x0 x1 l k cl g) lv nx lp r s2) := by
  refine JCall.wpc (C := cx) T.func_9 (by kernel_rfl) rfl (by rfl) (fun hL => ?_)
  clear hL
  have hnk : ¬ nx = k := by omega
  have hn0 : ¬ nx = 0 := by omega
  by_cases h : cl.length < 10000
  · have h1 : ¬ (10000 : Int) ≤ cl.length := by omega
    simp [f9, h1, hk, hk2, hlv, hnk, hn0, hl0]
    refine ⟨b16 (by omega), ?_⟩
    rw [if_pos h]
    exact ⟨rfl, _, rfl, rfl, rfl, rfl⟩
  · have h1 : (10000 : Int) ≤ cl.length := by omega
    simp [f9, h1]
    rw [if_neg h]
    exact ⟨rfl, _, rfl, rfl, rfl, rfl⟩
end
end Go.Proofs.AL
namespace Go.Proofs.AL
open Go Go.RowKit Go.Proofs.Tryd
set_option maxRecDepth 100000
set_option linter.unusedSimpArgs false
theorem make_nil (c : ByteArray) : ACall cx 9 [.nilp, .str c] (.tup [.agg [.int .i64 0, .int .i64 0], .int .i64 1]) none := by
  refine ACall.wpc (C := cx) T.func_9 (by kernel_rfl) rfl (by rfl) ?_
  simp [f9]
theorem object_nil (a b : Int) : ACall cx 25 [.nilp, .agg [.int .i64 a, .int .i64 b]] (.bool false) none := by
  refine ACall.wpc (C := cx) T.func_25 (by kernel_rfl) rfl (by rfl) ?_
  simp [f25]
  kernel_rfl
theorem class_nil (a b : Int) : ACall cx 16 [.nilp, .agg [.int .i64 a, .int .i64 b]] (.tup [.str .empty, .bool false]) none := by
  refine ACall.wpc (C := cx) T.func_16 (by kernel_rfl) rfl (by rfl) ?_
  simp [f16]
  refine callP_i (object_nil a b) ?_
  simp
  rfl
theorem at_nil (a b : Int) (s : ByteArray) : ACall cx 23 [.nilp, .agg [.int .i64 a, .int .i64 b], .str s] (.tup [.agg [.int .i64 0, .str .empty], .int .i64 1]) none := by
  refine ACall.wpc (C := cx) T.func_23 (by kernel_rfl) rfl (by rfl) ?_
  simp [f23]
theorem get_nil (a b : Int) (s ty : ByteArray) : ACall cx 12 [.nilp, .agg [.int .i64 a, .int .i64 b], .str s, .str ty] (.tup [.agg [.int .i64 0, .int .i64 0], .int .i64 1]) none := by
  refine ACall.wpc (C := cx) T.func_12 (by kernel_rfl) rfl (by rfl) ?_
  simp [f12]
  refine callP_i (at_nil a b s) ?_
  simp
theorem set_nil (a b x y : Int) (s : ByteArray) : ACall cx 14 [.nilp, .agg [.int .i64 a, .int .i64 b], .str s, .agg [.int .i64 x, .int .i64 y]] (.int .i64 1) none := by
  refine ACall.wpc (C := cx) T.func_14 (by kernel_rfl) rfl (by rfl) ?_
  simp [f14]
  refine callP_i (at_nil a b s) ?_
  simp
theorem many_nil : ACall cx 18 [.nilp] (.int .i64 0) none := by
  refine ACall.wpc (C := cx) T.func_18 (by kernel_rfl) rfl (by rfl) ?_
  simp [f18]
set_option maxHeartbeats 4000000 in
theorem none_ok (hw : Awake) (s : ByteArray) (n : Int) : ACall cx 6 [.str s, .int .i64 n] (.bool true) none := by
  refine ACall.wpc (C := cx) T.func_6 (by kernel_rfl) rfl (by rfl) ?_
  simp [f6]
  refine callP_i hw ?_
  simp
  refine callP_i (make_nil s) ?_
  simp
  refine callP_i (class_nil 3 1) ?_
  simp
  refine callP_i (get_nil 1 0 s s) ?_
  simp
  refine callP_i (set_nil 1 0 0 0 s) ?_
  simp
  refine callP_i many_nil ?_
  simp
  refine callP_j (jcallP_in T.func_8 (by kernel_rfl) rfl (by rfl) (fun _ => ?_))
  simp [f8]
  have g1 : getV [] [] 0 0 s ⟨#[105, 110, 116]⟩ = .tup [.agg [.int .i64 0, .int .i64 0], .int .i64 220] := by simp [getV, which, isObj, valV]
  have g2 : getV [] [] 3 1 s ⟨#[105, 110, 116]⟩ = .tup [.agg [.int .i64 0, .int .i64 0], .int .i64 220] := by simp [getV, which, isObj, valV]
  have g3 : getV [] [] 2 0 s ⟨#[105, 110, 116]⟩ = .tup [.agg [.int .i64 0, .int .i64 0], .int .i64 1] := by simp [getV, which, isObj, valV]
  refine jcallP_i (get_j2 (l := []) (cl := []) (g := []) (k := 1) 0 0 s ⟨#[105, 110, 116]⟩) ?_
  rintro _ s2 ⟨rfl, rest, e1, e2, e3, e4⟩
  rw [S_ret e1 e2 e3 e4, g1]
  simp
  refine jcallP_i (get_j2 (l := []) (cl := []) 3 1 s ⟨#[105, 110, 116]⟩) ?_
  rintro _ s2 ⟨rfl, rest, e1, e2, e3, e4⟩
  rw [S_ret e1 e2 e3 e4, g2]
  simp
  refine jcallP_i (get_j2 (l := []) (cl := []) 2 0 s ⟨#[105, 110, 116]⟩) ?_
  rintro _ s2 ⟨rfl, rest, e1, e2, e3, e4⟩
  rw [S_ret e1 e2 e3 e4, g3]
  simp
  refine split2_i (fun h => ?_) (fun h => ?_) <;> simp [h]
  refine loopK [14] (fun (p : Nat × Nat) nx => p.1 ≤ 10000 ∧ p.2 ≠ 0 ∧ p.2 ≠ 2 ∧ p.2 < nx) (fun p => [(21, .int .i64 (p.1 : Nat))]) (fun p => hob2 [.int .i64 0, .int .i64 0] [.int .i64 0, .int .i64 0] [] p.2 (List.replicate p.1 ⟨#[65]⟩) []) (fun p => [(p.2, .ty 9)]) (fun p => 10000 - p.1) (0, 1) ⟨by simp, by simp, by simp, by simp⟩ (by simp) _ rfl (by simp) ?_
  rintro ⟨i, k⟩ nx g ⟨hi, hk, hk2, hkn⟩ hnx -
  dsimp only at hi hk hk2 hkn
  have hlv : look [(k, Tk.ty 9)] k = some (.ty 9) := by simp
  have hl0 : look [(k, Tk.ty 9)] 0 = none := by simp [hk]
  simp
  by_cases h4 : i < 10000
  · have h4' : (i : Int) < 10000 := by omega
    have w : IntKind.i64.wrap ((i : Int) + 1) = ((i + 1 : Nat) : Int) := by rw [wrap64_in (by omega) (by omega)]; omega
    simp [h4']
    refine jcallP_i (make_j2 (l := []) (cl := List.replicate i ⟨#[65]⟩) (g := g) (k := k) ⟨#[65]⟩ hk hk2 hkn hnx (by simp; omega) hlv hl0) ?_
    intro r s2 h
    rw [if_pos (by simpa using h4)] at h
    obtain ⟨rfl, rest, e1, e2, e3, e4⟩ := h
    rw [S_ret e1 e2 e3 e4]
    simp
    refine againK_i (i + 1, nx) (g ++ rest) ⟨h4, by omega, by dsimp only; omega, by simp⟩ (by dsimp only; omega) (by simp [w]) ?_ (by simp)
    rw [← List.replicate_succ']
    simp
  · have : i = 10000 := by omega
    subst this
    simp
    refine jcallP_i (make_j2 (l := []) (cl := List.replicate 10000 ⟨#[65]⟩) (g := g) (k := k) ⟨#[65]⟩ hk hk2 hkn hnx (by simp) hlv hl0) ?_
    intro r s2 h
    rw [if_neg (by simp)] at h
    obtain ⟨rfl, rest, e1, e2, e3, e4⟩ := h
    rw [S_ret e1 e2 e3 e4]
    simp
    refine jcallP_i (many_j2 (l := []) (cl := List.replicate 10000 ⟨#[65]⟩)) ?_
    rintro _ s2 ⟨rfl, rest2, e1, e2, e3, e4⟩
    rw [S_ret e1 e2 e3 e4]
    simp
end Go.Proofs.AL
