/- What the functions that the law ArithOrder reaches compute, and the law (part 2). -/
import Derived.Test.YtmmpichkmmgfaaaDoorAlArithOrder1
namespace Go.Proofs.AL
open Go Go.RowKit Go.Proofs.Tryd
set_option maxRecDepth 100000
set_option linter.unusedSimpArgs false
theorem isNaN_ok (a : Int) : ACall cx 29 [.int .i64 a] (.bool false) none := by
  refine ACall.wpc (C := cx) T.func_29 (by kernel_rfl) rfl (by rfl) ?_
  simp [f29]
def cmpV (a b : Int) : Int := if a < b then -1 else if b < a then 1 else 0
set_option maxHeartbeats 4000000 in
theorem compare_ok (a b : Int) : ACall cx 25 [.int .i64 a, .int .i64 b] (.int .i64 (cmpV a b)) none := by
  refine ACall.wpc (C := cx) T.func_25 (by kernel_rfl) rfl (by rfl) ?_
  simp [f25]
  refine callP_i (isNaN_ok _) ?_
  simp
  refine callP_i (isNaN_ok _) ?_
  simp
  refine split2_i (fun e1 => ?_) (fun e1 => ?_) <;> simp [e1]
  · simp at e1
    simp [cmpV, e1]
  · simp at e1
    refine split2_i (fun e2 => ?_) (fun e2 => ?_) <;> simp [e2]
    · simp at e2
      have : ¬ a < b := by omega
      simp [cmpV, this, e2]
    · simp at e2
      have h1 : ¬ a < b := by omega
      have h2 : ¬ b < a := by omega
      simp [cmpV, h1, h2]
theorem cmp_lt (a b : Int) : (cmpV a b < 0) = (a < b) := by unfold cmpV; split <;> (try split) <;> simp <;> omega
theorem cmp_le (a b : Int) : (cmpV a b ≤ 0) = (a ≤ b) := by unfold cmpV; split <;> (try split) <;> simp <;> omega
theorem cmp_gt (a b : Int) : (0 < cmpV a b) = (b < a) := by unfold cmpV; split <;> (try split) <;> simp <;> omega
theorem cmp_ge (a b : Int) : (0 ≤ cmpV a b) = (b ≤ a) := by unfold cmpV; split <;> (try split) <;> simp <;> omega
theorem cmp_eq (a b : Int) : (cmpV a b = 0) = (a = b) := by unfold cmpV; split <;> (try split) <;> simp <;> omega
theorem cmp_beq (a b : Int) : (cmpV a b == 0) = decide (a = b) := by
  have := cmp_eq a b
  by_cases h : a = b
  · simp [h, this.mpr h]
    simp [cmpV]
  · rw [decide_eq_false h]
    exact beq_false_of_ne (fun e => h (this.mp e))
def testV (op : ByteArray) (a b : Int) : Bool × Bool :=
  if op.toList == [60] then (decide (W a < W b), true) else if op.toList == [60, 61] then (decide (W a ≤ W b), true) else if op.toList == [62] then (decide (W b < W a), true) else
  if op.toList == [62, 61] then (decide (W b ≤ W a), true) else if op.toList == [61, 61] then (decide (W a = W b), true) else if op.toList == [33, 61] then (decide (W a ≠ W b), true) else (false, false)
set_option maxHeartbeats 8000000 in
theorem test_ok (op : ByteArray) (a b : Int) : ACall cx 11 [.str op, .int .i64 a, .int .i64 b] (.tup [.bool (testV op a b).1, .bool (testV op a b).2]) none := by
  refine ACall.wpc (C := cx) T.func_11 (by kernel_rfl) rfl (by rfl) ?_
  simp [f11]
  refine callP_i (wrap_ok _) ?_
  simp
  refine callP_i (wrap_ok _) ?_
  simp
  refine callP_i (compare_ok _ _) ?_
  simp
  cases h1 : (op.toList == [60])
  rotate_left
  · simp [h1, testV, cmp_lt]
  cases h2 : (op.toList == [60, 61])
  rotate_left
  · simp [h1, h2, testV, cmp_le]
  cases h3 : (op.toList == [62])
  rotate_left
  · simp [h1, h2, h3, testV, cmp_gt]
  cases h4 : (op.toList == [62, 61])
  rotate_left
  · simp [h1, h2, h3, h4, testV, cmp_ge]
  cases h5 : (op.toList == [61, 61])
  rotate_left
  · simp [h1, h2, h3, h4, h5, testV, cmp_beq]
  cases h6 : (op.toList == [33, 61])
  rotate_left
  · simp [h1, h2, h3, h4, h5, h6, testV, bne, cmp_beq]
  simp [h1, h2, h3, h4, h5, h6, testV]
set_option maxHeartbeats 8000000 in
theorem refTest_ok (op : ByteArray) (a b : Int) (ha : Fit64 a) (hb : Fit64 b) : ACall cx 12 [.str op, .int .i64 a, .int .i64 b] (.tup [.bool (testV op a b).1, .bool (testV op a b).2]) none := by
  refine ACall.wpc (C := cx) T.func_12 (by kernel_rfl) rfl (by rfl) ?_
  simp [f12]
  refine callP_i (refWrap_ok _ ha.1 ha.2) ?_
  simp
  refine callP_i (refWrap_ok _ hb.1 hb.2) ?_
  simp
  simp only [(lit_beq op [60]).symm]
  cases h1 : (op.toList == [60]) <;> simp [h1]
  rotate_left
  · simp [testV, h1]
  simp only [(lit_beq op [60, 61]).symm]
  cases h2 : (op.toList == [60, 61]) <;> simp [h2]
  rotate_left
  · simp [testV, h1, h2]
  simp only [(lit_beq op [62]).symm]
  cases h3 : (op.toList == [62]) <;> simp [h3]
  rotate_left
  · simp [testV, h1, h2, h3]
  simp only [(lit_beq op [62, 61]).symm]
  cases h4 : (op.toList == [62, 61]) <;> simp [h4]
  rotate_left
  · simp [testV, h1, h2, h3, h4]
  simp only [(lit_beq op [61, 61]).symm]
  cases h5 : (op.toList == [61, 61]) <;> simp [h5]
  rotate_left
  · simp [testV, h1, h2, h3, h4, h5]
    rfl
  simp only [(lit_beq op [33, 61]).symm]
  cases h6 : (op.toList == [33, 61]) <;> simp [h6]
  rotate_left
  · simp [testV, h1, h2, h3, h4, h5, h6, bne]
    rfl
  simp [testV, h1, h2, h3, h4, h5, h6]
end Go.Proofs.AL
namespace Go.Proofs.AL
open Go Go.RowKit Go.Proofs.Tryd
set_option maxRecDepth 100000
set_option linter.unusedSimpArgs false
def itoaB (n : Int) : ByteArray := ⟨(Lib.itoa n).toArray⟩
theorem show_ok (a : Int) : ACall cx 18 [.int .i64 a] (.str (itoaB (W a))) none := by
  refine ACall.wpc (C := cx) T.func_18 (by kernel_rfl) rfl (by rfl) ?_
  simp [f18]
  refine callP_i (wrap_ok _) ?_
  simp
  refine callP_i (fmt_ok _ (by have := W_ge a; omega) (by have := W_le a; omega)) ?_
  simp [itoaB]
def readV (s : ByteArray) : Int × Bool := match Lib.parseIntB 32 s.data.toList with
  | .ok v => if itoaB (W v) = s then (v, true) else (0, false)
  | _ => (0, false)
theorem read_ok (s : ByteArray) (hs : s.size ≤ 1000) : ACall cx 16 [.str s] (.tup [.int .i64 (readV s).1, .bool (readV s).2]) none := by
  refine ACall.wpc (C := cx) T.func_16 (by kernel_rfl) rfl (by rfl) ?_
  simp [f16]
  by_cases hp : ∃ v, Lib.parseIntB 32 s.data.toList = .ok v
  · obtain ⟨v, hv⟩ := hp
    refine callP_i (parse_ok s hs v hv) ?_
    simp
    refine callP_i (show_ok _) ?_
    simp
    by_cases h : itoaB (W v) = s <;> simp [h, readV, hv]
  · refine callP_q (parse_bad s hs (fun v h => hp ⟨v, h⟩)) ?_
    rintro _ ⟨v, t, rfl⟩
    have : readV s = (0, false) := by
      unfold readV
      split
      · rename_i v hv; exact absurd ⟨v, hv⟩ hp
      · rfl
    simp [this]
def Awake : Prop := ACall cx 8 [] (.bool true) none
set_option maxHeartbeats 4000000 in
theorem awake_ok : Awake := by
  refine ACall.wpc (C := cx) T.func_8 (by kernel_rfl) rfl (by rfl) ?_
  simp [f8]
  refine callP_i (do_ok _ _ _) ?_
  rw [show doV ⟨#[43]⟩ 2147483647 1 = (-2147483648, 0) by kernel_rfl]
  simp
  refine callP_i (do_ok _ _ _) ?_
  rw [show doV ⟨#[47]⟩ (-7) 2 = (-3, 0) by kernel_rfl]
  simp
  refine callP_i (do_ok _ _ _) ?_
  rw [show doV ⟨#[37]⟩ (-7) 2 = (-1, 0) by kernel_rfl]
  simp
  refine callP_i (test_ok _ _ _) ?_
  rw [show testV ⟨#[60]⟩ (-1) 0 = (true, true) by kernel_rfl]
  simp
  refine callP_i (read_ok _ (by decide)) ?_
  rw [show readV ⟨#[45, 51]⟩ = (-3, true) by kernel_rfl]
  simp
  refine callP_i (show_ok _) ?_
  rw [show itoaB (W (-3)) = ⟨#[45, 51]⟩ by kernel_rfl]
  simp
  refine callP_i (neg_ok _) ?_
  rw [show W (-5) = -5 by kernel_rfl]
  simp
  refine callP_i (wrap_ok _) ?_
  rw [show W 4294967297 = 1 by kernel_rfl]
  simp
end Go.Proofs.AL
namespace Go.Proofs.AL
open Go Go.RowKit Go.Proofs.Tryd
set_option maxRecDepth 100000
set_option linter.unusedSimpArgs false
theorem W_sum (a b : Int) : W (W a + W b) = W (a + b) := by rw [W_eq a, W_eq b, W_eq, W_eq]; omega
theorem W_dif (a b : Int) : W (W a - W b) = W (a - b) := by rw [W_eq a, W_eq b, W_eq, W_eq]; omega
theorem W_neg (a : Int) : W (- W a) = W (- a) := by rw [W_eq a, W_eq, W_eq]; omega
theorem W_prod (a b : Int) : W (W a * W b) = W (a * b) := by
  obtain ⟨k, hk⟩ := W_off a
  obtain ⟨l, hl⟩ := W_off b
  have : W a * W b = a * b + 4294967296 * (a * l + k * b + 4294967296 * (k * l)) := by
    rw [hk, hl]
    simp only [Int.add_mul, Int.mul_add]
    have e1 : a * (4294967296 * l) = 4294967296 * (a * l) := by rw [← Int.mul_assoc, Int.mul_comm a, Int.mul_assoc]
    have e2 : 4294967296 * k * b = 4294967296 * (k * b) := Int.mul_assoc _ _ _
    have e3 : 4294967296 * k * (4294967296 * l) = 4294967296 * (4294967296 * (k * l)) := by rw [Int.mul_assoc, ← Int.mul_assoc k, Int.mul_comm k, Int.mul_assoc 4294967296 k]
    rw [e1, e2, e3]
    omega
  rw [this, W_add]
theorem W_addW (a b : Int) : W (a + W b) = W (a + b) := by rw [W_eq b, W_eq, W_eq]; omega
theorem W_Wadd (a b : Int) : W (W a + b) = W (a + b) := by rw [W_eq a, W_eq, W_eq]; omega
theorem W_mulW (a b : Int) : W (a * W b) = W (a * b) := by rw [← W_prod, W_W, W_prod]
theorem W_Wmul (a b : Int) : W (W a * b) = W (a * b) := by rw [← W_prod, W_W, W_prod]
theorem do_add (a b : Int) : ACall cx 9 [.str ⟨#[43]⟩, .int .i64 a, .int .i64 b] (.tup [.int .i64 (W (a + b)), .int .i64 0]) none := by
  have h := do_ok ⟨#[43]⟩ a b
  rw [show doV ⟨#[43]⟩ a b = (W (W a + W b), 0) by simp [doV, lit_beq], W_sum] at h
  exact h
theorem do_mul (a b : Int) : ACall cx 9 [.str ⟨#[42]⟩, .int .i64 a, .int .i64 b] (.tup [.int .i64 (W (a * b)), .int .i64 0]) none := by
  have h := do_ok ⟨#[42]⟩ a b
  rw [show doV ⟨#[42]⟩ a b = (W (W a * W b), 0) by simp [doV, lit_beq], W_prod] at h
  exact h
def divV (a b : Int) : Int × Int := if W b = 0 then (0, 221) else (W ((W a).tdiv (W b)), 0)
def modV (a b : Int) : Int × Int := if W b = 0 then (0, 221) else ((W a).tmod (W b), 0)
theorem do_div (a b : Int) : ACall cx 9 [.str ⟨#[47]⟩, .int .i64 a, .int .i64 b] (.tup [.int .i64 (divV a b).1, .int .i64 (divV a b).2]) none := by
  have h := do_ok ⟨#[47]⟩ a b
  rw [show doV ⟨#[47]⟩ a b = divV a b by simp [doV, lit_beq, divV]] at h
  exact h
theorem do_mod (a b : Int) : ACall cx 9 [.str ⟨#[37]⟩, .int .i64 a, .int .i64 b] (.tup [.int .i64 (modV a b).1, .int .i64 (modV a b).2]) none := by
  have h := do_ok ⟨#[37]⟩ a b
  rw [show doV ⟨#[37]⟩ a b = modV a b by simp [doV, lit_beq, modV]] at h
  exact h
theorem refDo_neg (a : Int) (ha : Fit64 a) : ACall cx 10 [.str ⟨#[45]⟩, .int .i64 0, .int .i64 a] (.tup [.int .i64 (W (-a)), .int .i64 0]) none := by
  have h := refDo_ok ⟨#[45]⟩ 0 a ⟨by decide, by decide⟩ ha
  rw [show doV ⟨#[45]⟩ 0 a = (W (W 0 - W a), 0) by simp [doV, lit_beq], W_dif, Int.zero_sub] at h
  exact h
set_option maxHeartbeats 8000000 in
theorem arithDoes_ok (haw : Awake) (op : ByteArray) (a b : Int) (ha : Fit64 a) (hb : Fit64 b) : ACall cx 3 [.str op, .int .i64 a, .int .i64 b] (.bool true) none := by
  refine ACall.wpc (C := cx) T.func_3 (by kernel_rfl) rfl (by rfl) ?_
  simp [f3]
  refine callP_i haw ?_
  simp
  refine split2_i (fun e1 => ?_) (fun e1 => ?_) <;> simp [e1]
  refine callP_i (do_ok _ _ _) ?_
  simp
  refine callP_i (refDo_ok _ _ _ ha hb) ?_
  simp
  refine callP_i (test_ok _ _ _) ?_
  simp
  refine callP_i (refTest_ok _ _ _ ha hb) ?_
  simp
  refine callP_i (refDo_neg _ ha) ?_
  simp
  refine callP_i (wrap_ok _) ?_
  simp
  refine callP_i (refWrap_ok _ ha.1 ha.2) ?_
  simp
  refine callP_i (neg_ok _) ?_
  simp
set_option maxHeartbeats 8000000 in
theorem arithRing_ok (haw : Awake) (a b c : Int) : ACall cx 5 [.int .i64 a, .int .i64 b, .int .i64 c] (.bool true) none := by
  refine ACall.wpc (C := cx) T.func_5 (by kernel_rfl) rfl (by rfl) ?_
  simp [f5]
  refine callP_i haw ?_
  simp
  refine callP_i (do_add _ _) ?_
  simp
  refine callP_i (do_add _ _) ?_
  simp
  refine callP_i (do_add _ _) ?_
  simp
  refine callP_i (do_add _ _) ?_
  simp
  refine callP_i (do_add _ _) ?_
  simp
  refine callP_i (do_mul _ _) ?_
  simp
  refine callP_i (do_mul _ _) ?_
  simp
  refine callP_i (do_mul _ _) ?_
  simp
  refine callP_i (do_mul _ _) ?_
  simp
  refine callP_i (do_mul _ _) ?_
  simp
  refine callP_i (do_mul _ _) ?_
  simp
  refine callP_i (do_add _ _) ?_
  simp
  refine callP_i (do_mul _ _) ?_
  simp
  refine callP_i (neg_ok _) ?_
  simp
  refine callP_i (do_add _ _) ?_
  simp
  rw [show (W (a + b) == W (b + a)) = true by rw [Int.add_comm]; simp]
  simp
  rw [show (W (W (a + b) + c) == W (a + W (b + c))) = true by rw [W_Wadd, W_addW, Int.add_assoc]; simp]
  simp
  rw [show (W (a * b) == W (b * a)) = true by rw [Int.mul_comm]; simp]
  simp
  rw [show (W (W (a * b) * c) == W (a * W (b * c))) = true by rw [W_Wmul, W_mulW, Int.mul_assoc]; simp]
  simp
  rw [show (W (W (a * b) + W (a * c)) == W (a * W (b + c))) = true by rw [W_sum, W_mulW, Int.mul_add]; simp]
  simp
  rw [show (W (a + W (-a)) == 0) = true by rw [W_addW, Int.add_right_neg]; decide]
  simp
  refine callP_i (neg_ok _) ?_
  simp
  refine callP_i (neg_ok _) ?_
  simp
  refine callP_i (wrap_ok _) ?_
  simp
  rw [W_neg, Int.neg_neg]
theorem quo_eq {a b : Int} : W (W (W ((W a).tdiv (W b)) * b) + (W a).tmod (W b)) = W a := by
  rw [W_Wadd, ← W_Wadd, W_Wmul, ← W_mulW, W_Wadd, Int.mul_comm, Int.mul_tdiv_add_tmod, W_W]
set_option maxHeartbeats 8000000 in
theorem arithQuotient_ok (haw : Awake) (a b : Int) : ACall cx 6 [.int .i64 a, .int .i64 b] (.bool true) none := by
  refine ACall.wpc (C := cx) T.func_6 (by kernel_rfl) rfl (by rfl) ?_
  simp [f6]
  refine callP_i haw ?_
  simp
  refine callP_i (do_div _ _) ?_
  simp
  refine callP_i (do_mod _ _) ?_
  simp
  by_cases h0 : W b = 0
  · rw [show divV a b = (0, 221) by simp [divV, h0], show modV a b = (0, 221) by simp [modV, h0]]
    simp
    refine callP_i (wrap_ok _) ?_
    simp
    refine callP_i (wrap_ok _) ?_
    rw [h0]
    simp
  · have h1 : (W b == 0) = false := by simpa using h0
    rw [show divV a b = (W ((W a).tdiv (W b)), 0) by simp [divV, h0], show modV a b = ((W a).tmod (W b), 0) by simp [modV, h0]]
    simp
    refine callP_i (wrap_ok _) ?_
    simp
    refine callP_i (wrap_ok _) ?_
    simp [h1]
    refine callP_i (do_mul _ _) ?_
    simp
    refine callP_i (do_add _ _) ?_
    rw [quo_eq]
    have ag := W_ge a
    have al := W_le a
    have bg := W_ge b
    have bl := W_le b
    have d1 : W a ≤ 0 → (W a).tmod (W b) ≤ 0 := fun h => by
      rw [show W a = -(-W a) by omega, Int.neg_tmod]
      have := Int.tmod_nonneg (W b) (show 0 ≤ -W a by omega)
      omega
    have d2 : 0 ≤ W a → 0 ≤ (W a).tmod (W b) := fun h0 => Int.tmod_nonneg _ h0
    have d3 : ((W a).tmod (W b)).natAbs < (W b).natAbs := by
      rw [Int.natAbs_tmod]
      exact Nat.mod_lt _ (by omega)
    revert d1 d2 d3
    generalize (W a).tmod (W b) = r
    intro d1 d2 d3
    rcases Int.lt_trichotomy r 0 with hr | hr | hr
    · have f1 : ¬ 0 ≤ W a := fun h => by have := d2 h; omega
      have f2 : ¬ 0 < r := by omega
      simp [hr, f1, f2]
      rw [w64_id (n := -r) (by omega) (by omega), w64_id (n := -W b) (by omega) (by omega)]
      split <;> split <;> omega
    · have f1 : ¬ r < 0 := by omega
      have f2 : ¬ 0 < r := by omega
      simp [f1, f2]
      rw [w64_id (n := -r) (by omega) (by omega), w64_id (n := -W b) (by omega) (by omega)]
      split <;> split <;> omega
    · have f1 : ¬ W a ≤ 0 := fun h => by have := d1 h; omega
      have f2 : ¬ r < 0 := by omega
      simp [hr, f1, f2]
      rw [w64_id (n := -r) (by omega) (by omega), w64_id (n := -W b) (by omega) (by omega)]
      split <;> split <;> omega
set_option maxHeartbeats 8000000 in
theorem arithOrder_ok (haw : Awake) (a b : Int) : ACall cx 7 [.int .i64 a, .int .i64 b] (.bool true) none := by
  refine ACall.wpc (C := cx) T.func_7 (by kernel_rfl) rfl (by rfl) ?_
  simp [f7]
  refine callP_i haw ?_
  simp
  refine callP_i (test_ok _ _ _) ?_
  rw [show testV ⟨#[60]⟩ a b = (decide (W a < W b), true) by simp [testV, lit_beq]]
  simp
  refine callP_i (test_ok _ _ _) ?_
  rw [show testV ⟨#[61, 61]⟩ a b = (decide (W a = W b), true) by simp [testV, lit_beq]]
  simp
  refine callP_i (test_ok _ _ _) ?_
  rw [show testV ⟨#[62]⟩ a b = (decide (W b < W a), true) by simp [testV, lit_beq]]
  simp
  refine callP_i (test_ok _ _ _) ?_
  rw [show testV ⟨#[60, 61]⟩ a b = (decide (W a ≤ W b), true) by simp [testV, lit_beq]]
  simp
  refine callP_i (test_ok _ _ _) ?_
  rw [show testV ⟨#[62, 61]⟩ a b = (decide (W b ≤ W a), true) by simp [testV, lit_beq]]
  simp
  refine callP_i (test_ok _ _ _) ?_
  rw [show testV ⟨#[33, 61]⟩ a b = (decide (W a ≠ W b), true) by simp [testV, lit_beq]]
  simp
  refine callP_i (test_ok _ _ _) ?_
  rw [show testV ⟨#[60]⟩ b a = (decide (W b < W a), true) by simp [testV, lit_beq]]
  simp
  rcases Int.lt_trichotomy (W a) (W b) with h | h | h
  · have h2 : ¬ W a = W b := by omega
    have h3 : ¬ W b < W a := by omega
    have h4 : W a ≤ W b := by omega
    have h5 : ¬ W b ≤ W a := by omega
    simp [h, h2, h3, h4, h5]
    simp [show IntKind.i64.wrap 1 = 1 from rfl]
    refine callP_i (wrap_ok _) ?_
    simp
    refine callP_i (wrap_ok _) ?_
    simp
    try omega
  · simp [h]
    simp [show IntKind.i64.wrap 1 = 1 from rfl]
    refine callP_i (wrap_ok _) ?_
    simp
    refine callP_i (wrap_ok _) ?_
    simp [h]
  · have h2 : ¬ W a = W b := by omega
    have h3 : ¬ W a < W b := by omega
    have h4 : W b ≤ W a := by omega
    have h5 : ¬ W a ≤ W b := by omega
    simp [h, h2, h3, h4, h5]
    simp [show IntKind.i64.wrap 1 = 1 from rfl]
    refine callP_i (wrap_ok _) ?_
    simp
    refine callP_i (wrap_ok _) ?_
    simp
    try omega
end Go.Proofs.AL
