/- What the functions that the law ArithShows reaches compute, and the law (part 2). -/
import Derived.Test.YtmmpichkmmgfaaaDoorAlArithShows1
namespace Go.Proofs.AL
open Go Go.RowKit Go.Proofs.Tryd
set_option maxRecDepth 100000
set_option linter.unusedSimpArgs false
theorem isNaN_ok (a : Int) : ACall cx 29 [.int .i64 a] (.bool false) none := by
  refine ACall.wpc (C := cx) T.func_29 (by kernel_rfl) rfl (by rfl) ?_
  simp [f29]
def cmpV (a b : Int) : Int := if a < b then -1 else if b < a then 1 else 0
set_option maxHeartbeats 4000000 in
theorem compare_ok (a b : Int) : ACall cx 25 [.int .i64 a, .int .i64 b] (.int .i64 (cmpV a b)) none := by
  refine ACall.wpc (C := cx) T.func_25 (by kernel_rfl) rfl (by rfl) ?_
  simp [f25]
  refine callP_i (isNaN_ok _) ?_
  simp
  refine callP_i (isNaN_ok _) ?_
  simp
  refine split2_i (fun e1 => ?_) (fun e1 => ?_) <;> simp [e1]
  · simp at e1
    simp [cmpV, e1]
  · simp at e1
    refine split2_i (fun e2 => ?_) (fun e2 => ?_) <;> simp [e2]
    · simp at e2
      have : ¬ a < b := by omega
      simp [cmpV, this, e2]
    · simp at e2
      have h1 : ¬ a < b := by omega
      have h2 : ¬ b < a := by omega
      simp [cmpV, h1, h2]
theorem cmp_lt (a b : Int) : (cmpV a b < 0) = (a < b) := by unfold cmpV; split <;> (try split) <;> simp <;> omega
theorem cmp_le (a b : Int) : (cmpV a b ≤ 0) = (a ≤ b) := by unfold cmpV; split <;> (try split) <;> simp <;> omega
theorem cmp_gt (a b : Int) : (0 < cmpV a b) = (b < a) := by unfold cmpV; split <;> (try split) <;> simp <;> omega
theorem cmp_ge (a b : Int) : (0 ≤ cmpV a b) = (b ≤ a) := by unfold cmpV; split <;> (try split) <;> simp <;> omega
theorem cmp_eq (a b : Int) : (cmpV a b = 0) = (a = b) := by unfold cmpV; split <;> (try split) <;> simp <;> omega
theorem cmp_beq (a b : Int) : (cmpV a b == 0) = decide (a = b) := by
  have := cmp_eq a b
  by_cases h : a = b
  · simp [h, this.mpr h]
    simp [cmpV]
  · rw [decide_eq_false h]
    exact beq_false_of_ne (fun e => h (this.mp e))
def testV (op : ByteArray) (a b : Int) : Bool × Bool :=
  if op.toList == [60] then (decide (W a < W b), true) else if op.toList == [60, 61] then (decide (W a ≤ W b), true) else if op.toList == [62] then (decide (W b < W a), true) else
  if op.toList == [62, 61] then (decide (W b ≤ W a), true) else if op.toList == [61, 61] then (decide (W a = W b), true) else if op.toList == [33, 61] then (decide (W a ≠ W b), true) else (false, false)
set_option maxHeartbeats 8000000 in
theorem test_ok (op : ByteArray) (a b : Int) : ACall cx 11 [.str op, .int .i64 a, .int .i64 b] (.tup [.bool (testV op a b).1, .bool (testV op a b).2]) none := by
  refine ACall.wpc (C := cx) T.func_11 (by kernel_rfl) rfl (by rfl) ?_
  simp [f11]
  refine callP_i (wrap_ok _) ?_
  simp
  refine callP_i (wrap_ok _) ?_
  simp
  refine callP_i (compare_ok _ _) ?_
  simp
  cases h1 : (op.toList == [60])
  rotate_left
  · simp [h1, testV, cmp_lt]
  cases h2 : (op.toList == [60, 61])
  rotate_left
  · simp [h1, h2, testV, cmp_le]
  cases h3 : (op.toList == [62])
  rotate_left
  · simp [h1, h2, h3, testV, cmp_gt]
  cases h4 : (op.toList == [62, 61])
  rotate_left
  · simp [h1, h2, h3, h4, testV, cmp_ge]
  cases h5 : (op.toList == [61, 61])
  rotate_left
  · simp [h1, h2, h3, h4, h5, testV, cmp_beq]
  cases h6 : (op.toList == [33, 61])
  rotate_left
  · simp [h1, h2, h3, h4, h5, h6, testV, bne, cmp_beq]
  simp [h1, h2, h3, h4, h5, h6, testV]
set_option maxHeartbeats 8000000 in
theorem refTest_ok (op : ByteArray) (a b : Int) (ha : Fit64 a) (hb : Fit64 b) : ACall cx 12 [.str op, .int .i64 a, .int .i64 b] (.tup [.bool (testV op a b).1, .bool (testV op a b).2]) none := by
  refine ACall.wpc (C := cx) T.func_12 (by kernel_rfl) rfl (by rfl) ?_
  simp [f12]
  refine callP_i (refWrap_ok _ ha.1 ha.2) ?_
  simp
  refine callP_i (refWrap_ok _ hb.1 hb.2) ?_
  simp
  simp only [(lit_beq op [60]).symm]
  cases h1 : (op.toList == [60]) <;> simp [h1]
  rotate_left
  · simp [testV, h1]
  simp only [(lit_beq op [60, 61]).symm]
  cases h2 : (op.toList == [60, 61]) <;> simp [h2]
  rotate_left
  · simp [testV, h1, h2]
  simp only [(lit_beq op [62]).symm]
  cases h3 : (op.toList == [62]) <;> simp [h3]
  rotate_left
  · simp [testV, h1, h2, h3]
  simp only [(lit_beq op [62, 61]).symm]
  cases h4 : (op.toList == [62, 61]) <;> simp [h4]
  rotate_left
  · simp [testV, h1, h2, h3, h4]
  simp only [(lit_beq op [61, 61]).symm]
  cases h5 : (op.toList == [61, 61]) <;> simp [h5]
  rotate_left
  · simp [testV, h1, h2, h3, h4, h5]
    rfl
  simp only [(lit_beq op [33, 61]).symm]
  cases h6 : (op.toList == [33, 61]) <;> simp [h6]
  rotate_left
  · simp [testV, h1, h2, h3, h4, h5, h6, bne]
    rfl
  simp [testV, h1, h2, h3, h4, h5, h6]
end Go.Proofs.AL
namespace Go.Proofs.AL
open Go Go.RowKit Go.Proofs.Tryd
set_option maxRecDepth 100000
set_option linter.unusedSimpArgs false
def itoaB (n : Int) : ByteArray := ⟨(Lib.itoa n).toArray⟩
theorem show_ok (a : Int) : ACall cx 18 [.int .i64 a] (.str (itoaB (W a))) none := by
  refine ACall.wpc (C := cx) T.func_18 (by kernel_rfl) rfl (by rfl) ?_
  simp [f18]
  refine callP_i (wrap_ok _) ?_
  simp
  refine callP_i (fmt_ok _ (by have := W_ge a; omega) (by have := W_le a; omega)) ?_
  simp [itoaB]
def readV (s : ByteArray) : Int × Bool := match Lib.parseIntB 32 s.data.toList with
  | .ok v => if itoaB (W v) = s then (v, true) else (0, false)
  | _ => (0, false)
theorem read_ok (s : ByteArray) (hs : s.size ≤ 1000) : ACall cx 16 [.str s] (.tup [.int .i64 (readV s).1, .bool (readV s).2]) none := by
  refine ACall.wpc (C := cx) T.func_16 (by kernel_rfl) rfl (by rfl) ?_
  simp [f16]
  by_cases hp : ∃ v, Lib.parseIntB 32 s.data.toList = .ok v
  · obtain ⟨v, hv⟩ := hp
    refine callP_i (parse_ok s hs v hv) ?_
    simp
    refine callP_i (show_ok _) ?_
    simp
    by_cases h : itoaB (W v) = s <;> simp [h, readV, hv]
  · refine callP_q (parse_bad s hs (fun v h => hp ⟨v, h⟩)) ?_
    rintro _ ⟨v, t, rfl⟩
    have : readV s = (0, false) := by
      unfold readV
      split
      · rename_i v hv; exact absurd ⟨v, hv⟩ hp
      · rfl
    simp [this]
def Awake : Prop := ACall cx 8 [] (.bool true) none
set_option maxHeartbeats 4000000 in
theorem awake_ok : Awake := by
  refine ACall.wpc (C := cx) T.func_8 (by kernel_rfl) rfl (by rfl) ?_
  simp [f8]
  refine callP_i (do_ok _ _ _) ?_
  rw [show doV ⟨#[43]⟩ 2147483647 1 = (-2147483648, 0) by kernel_rfl]
  simp
  refine callP_i (do_ok _ _ _) ?_
  rw [show doV ⟨#[47]⟩ (-7) 2 = (-3, 0) by kernel_rfl]
  simp
  refine callP_i (do_ok _ _ _) ?_
  rw [show doV ⟨#[37]⟩ (-7) 2 = (-1, 0) by kernel_rfl]
  simp
  refine callP_i (test_ok _ _ _) ?_
  rw [show testV ⟨#[60]⟩ (-1) 0 = (true, true) by kernel_rfl]
  simp
  refine callP_i (read_ok _ (by decide)) ?_
  rw [show readV ⟨#[45, 51]⟩ = (-3, true) by kernel_rfl]
  simp
  refine callP_i (show_ok _) ?_
  rw [show itoaB (W (-3)) = ⟨#[45, 51]⟩ by kernel_rfl]
  simp
  refine callP_i (neg_ok _) ?_
  rw [show W (-5) = -5 by kernel_rfl]
  simp
  refine callP_i (wrap_ok _) ?_
  rw [show W 4294967297 = 1 by kernel_rfl]
  simp
end Go.Proofs.AL
namespace Go.Proofs.AL
open Go
/-! ### numerals (no program in sight) -/
def dval (n : Nat) (l : List UInt8) : Nat := l.foldl (fun n c => n * 10 + (c.toNat - 48)) n
def isDig (c : UInt8) : Prop := 48 ≤ c.toNat ∧ c.toNat ≤ 57
instance (c : UInt8) : Decidable (isDig c) := inferInstanceAs (Decidable (_ ∧ _))
theorem dig_nat {d : Nat} (h : d < 10) : (UInt8.ofNat (48 + d)).toNat = 48 + d := by
  rw [UInt8.toNat_ofNat']; omega
theorem dec_dig : ∀ (u : Nat), ∀ c ∈ Lib.decDigits u, isDig c := by
  intro u
  induction u using Nat.strongRecOn with
  | ind u ih =>
    intro c hc
    rw [Lib.decDigits] at hc
    split at hc
    · rename_i h
      rw [List.mem_singleton] at hc
      subst hc
      unfold isDig
      rw [dig_nat h]
      omega
    · rename_i h
      rcases List.mem_append.1 hc with hc | hc
      · exact ih _ (by omega) c hc
      · rw [List.mem_singleton] at hc
        subst hc
        unfold isDig
        rw [dig_nat (by omega)]
        omega
theorem dec_val : ∀ (u : Nat), dval 0 (Lib.decDigits u) = u := by
  intro u
  induction u using Nat.strongRecOn with
  | ind u ih =>
    rw [Lib.decDigits]
    split
    · rename_i h
      simp only [dval, List.foldl_cons, List.foldl_nil, dig_nat h]
      omega
    · rename_i h
      have := ih (u / 10) (by omega)
      unfold dval at this ⊢
      rw [List.foldl_append, this]
      simp only [List.foldl_cons, List.foldl_nil, dig_nat (show u % 10 < 10 by omega)]
      omega
theorem dec_len : ∀ (k u : Nat), 1 ≤ k → u < 10 ^ k → (Lib.decDigits u).length ≤ k := by
  intro k
  induction k with
  | zero => intro u h; omega
  | succ k ih =>
    intro u _ hu
    rw [Lib.decDigits]
    split
    · simp
    · rename_i h
      rcases Nat.eq_zero_or_pos k with rfl | hk
      · simp at hu; omega
      · have := ih (u / 10) hk (by rw [Nat.pow_succ] at hu; omega)
        rw [List.length_append]
        simp
        exact this
theorem dec_ne (u : Nat) : Lib.decDigits u ≠ [] := by
  rw [Lib.decDigits]
  split <;> simp
theorem dval_mono : ∀ (l : List UInt8) (n : Nat), n ≤ dval n l := by
  intro l
  induction l with
  | nil => intro n; exact Nat.le_refl _
  | cons c l ih => intro n; exact Nat.le_trans (by omega) (ih (n * 10 + (c.toNat - 48)))
theorem parse_dig : ∀ (l : List UInt8) (M n : Nat), (∀ c ∈ l, isDig c) → dval n l ≤ M → M ≤ 4294967295 → Lib.parseUintM M n l = .ok (dval n l) := by
  intro l
  induction l with
  | nil => intro M n _ _ _; rfl
  | cons c l ih =>
    intro M n hd hM hm
    have hc : 48 ≤ c.toNat ∧ c.toNat ≤ 57 := hd c (List.mem_cons_self ..)
    have h1 : n * 10 + (c.toNat - 48) ≤ dval n (c :: l) := dval_mono l _
    rw [Lib.parseUintM, if_pos hc, if_neg (by omega), if_neg (by omega), ih M _ (fun x hx => hd x (List.mem_cons_of_mem _ hx)) hM hm]
    rfl
theorem parse_itoa {v : Int} (h1 : -2147483648 ≤ v) (h2 : v ≤ 2147483647) : Lib.parseIntB 32 (Lib.itoa v) = .ok v := by
  unfold Lib.itoa
  split
  · rename_i h
    have hp : Lib.parseUintB 32 (Lib.decDigits v.natAbs) = .ok v.natAbs := by
      rw [Lib.parseUintB, if_neg (dec_ne _), parse_dig _ _ _ (dec_dig _) (by rw [dec_val]; omega) (by decide), dec_val]
    rw [Lib.parseIntB]
    have e45 : (45 : UInt8).toNat = 45 := rfl
    simp only [e45, or_true, if_true, hp, not_true, false_and, if_false, true_and]
    rw [if_neg (by omega)]
    congr 1
    omega
  · rename_i h
    have hp : Lib.parseUintB 32 (Lib.decDigits v.toNat) = .ok v.toNat := by
      rw [Lib.parseUintB, if_neg (dec_ne _), parse_dig _ _ _ (dec_dig _) (by rw [dec_val]; omega) (by decide), dec_val]
    cases hd : Lib.decDigits v.toNat with
    | nil => exact absurd hd (dec_ne _)
    | cons c r =>
      have hc : isDig c := dec_dig v.toNat c (by rw [hd]; exact List.mem_cons_self ..)
      unfold isDig at hc
      have n43 : ¬ c.toNat = 43 := by omega
      have n45 : ¬ c.toNat = 45 := by omega
      rw [hd] at hp
      rw [Lib.parseIntB]
      simp only [n43, n45, or_self, if_false, hp, not_false_eq_true, true_and, false_and]
      rw [if_neg (by omega)]
      congr 1
      omega
end Go.Proofs.AL
