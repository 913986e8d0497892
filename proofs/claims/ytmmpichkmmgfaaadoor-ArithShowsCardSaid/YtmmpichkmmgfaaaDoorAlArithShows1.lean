/- What the functions that the law ArithShows reaches compute, and the law (part 1). -/
import Derived.Test.YtmmpichkmmgfaaaDoorRows
import Derived.Test.YtmmpichkmmgfaaaDoorTc
import Derived.Test.YtmmpichkmmgfaaaDoorShelf
import Derived.ChangeArms
import Derived.SizedLaws
import Derived.DataElems
import Derived.WalkKit
import Derived.ProofKit
import Derived.OpenShut
import Derived.ShutString
import Derived.ChangeOld
import Derived.Below
import Derived.LaidMore
import Derived.Stop.Joined
import Derived.MakeChecks
import Derived.Lib.LaidTab
import Derived.Lib.ParseIntBTie
namespace Go.Proofs.AL
open Go Go.RowKit Go.Proofs.Tryd
set_option maxRecDepth 100000
set_option linter.unusedSimpArgs false
set_option linter.unusedVariables false
theorem var_below {P : Program} {w w' : World} {n : String} {cs : Array Value} (hb : Below w.heap.size w w') (h : w.var? P n = some cs) : w'.var? P n = some cs := by
  unfold World.var? at h ⊢
  obtain ⟨g, hg, h⟩ := Option.bind_eq_some_iff.1 h
  rw [hg, Option.bind_some]
  cases hq : w.heap[g]? with
  | none => rw [hq] at h; cases h
  | some o =>
    rw [hb.block g (Array.getElem?_eq_some_iff.1 hq).1, hq]
    rw [hq] at h
    exact h
theorem below_grown (B : Nat) (w : World) (hB : B ≤ w.heap.size) (k : Nat) (os : Array Obj) : Below B w (Go.Sort.grow (w.drewN k) os) :=
  ⟨rfl, rfl, rfl, by simp [Go.Sort.grow], fun j hj => by
    show (w.heap ++ os)[j]? = w.heap[j]?
    rw [Array.getElem?_append_left (by omega)]⟩
/-- What the package's variables hold. -/
def VarsOk (w : World) : Prop := Lib.TabIs prog w "internal/strconv.uint64pow10" .u64 Lib.pow10Tab ∧ (∃ tp p, w.var? prog "strconv.ErrSyntax" = some #[.iface tp p]) ∧ (∃ tp p, w.var? prog "strconv.ErrRange" = some #[.iface tp p])
noncomputable def cx : Cx := ⟨prog, VarsOk, fun _ _ hb ⟨h1, ⟨t2, p2, h2⟩, t3, p3, h3⟩ => ⟨var_below hb h1, ⟨t2, p2, var_below hb h2⟩, t3, p3, var_below hb h3⟩, by kernel_rfl⟩
@[simp] theorem cx_P : cx.P = prog := rfl
/-- A contract that is told of values, for values that lead to no memory. -/
theorem ACall.ofCalls {C : Cx} {f : FuncId} {args : List AV} {res : AV} (vs0 : Array Value) (he : EntersF C.P f) (hv : args.map plainV? = vs0.toList.map some)
    (h : ∀ w, C.GI w → Calls C.P f vs0 w fun e w' => ∃ r, e = .returned r ∧ Below w.heap.size w w' ∧ ∀ G, V G w' res r) : ACall C f args res none := by
  refine ⟨he, fun m w vs hgi hz hl hV => ?_⟩
  have hlen : args.length = vs0.size := by have := congrArg List.length hv; simpa using this
  have e : vs = vs0 := by
    apply Array.ext
    · omega
    · intro i h1 h2
      have ha : i < args.length := by omega
      have hp : plainV? args[i] = some vs0[i] := by
        have := congrArg (·[i]?) hv
        simpa [ha, h2] using this
      exact (hV i args[i] vs[i] (List.getElem?_eq_getElem ha) (Array.getElem?_eq_getElem h1)).plain hp
  subst e
  refine (h w hgi).mono (fun e w' ⟨r, h1, h2, h3⟩ => ⟨r, m, h1, h2, fun _ _ => rfl, fun b hb => hz b (Nat.le_trans h2.size hb), h3 _, fun i e he => by cases he⟩)
theorem fmt_ok (n : Int) (h0 : -9223372036854775808 ≤ n) (h1 : n ≤ 9223372036854775807) : ACall cx 27 [.int .i64 n, .int .i64 10] (.str ⟨(Lib.itoa n).toArray⟩) none :=
  ACall.ofCalls #[.int .i64 n, .int .i64 10] ⟨_, _, T.func_27, by kernel_rfl, rfl⟩ rfl fun w hgi => (strconv_FormatInt_10 n h0 h1 w hgi.1).mono fun e w' ⟨h, k, os, hw⟩ => ⟨_, h, by subst hw; exact below_grown _ w (Nat.le_refl _) k os, fun G => .str _⟩
theorem parse_ok (s : ByteArray) (hs : s.size ≤ 1000) (v : Int) (h : Lib.parseIntB 32 s.data.toList = .ok v) : ACall cx 26 [.str s, .int .i64 10, .int .i64 32] (.tup [.int .i64 v, .nili]) none :=
  ACall.ofCalls #[.string s, .int .i64 10, .int .i64 32] ⟨_, _, T.func_26, by kernel_rfl, rfl⟩ rfl fun w hgi => (strconv_ParseInt_10_at32_ok s (by omega) v h w).mono fun e w' ⟨h, hw⟩ =>
    ⟨_, h, by rcases hw with rfl | ⟨t, rfl⟩ <;> first | exact Below.refl _ _ | exact Lib.bytesWorld_below _ _ _, fun G => .tup rfl (fun i c hc u hu => by
      match i, hc, hu with
      | 0, hc, hu => cases hc; cases hu; exact .int _ _
      | 1, hc, hu => cases hc; cases hu; exact .nili)⟩
theorem parse_bad (s : ByteArray) (hs : s.size ≤ 1000) (h : ∀ v, Lib.parseIntB 32 s.data.toList ≠ .ok v) : ACallQ cx 26 [.str s, .int .i64 10, .int .i64 32] (fun r => ∃ v t, r = .tup [.int .i64 v, .ifc t .opq]) none := by
  have fin : ∀ (x : Int) {r : Value} {N : Nat} {G : Gh} {w : World}, r = .tuple #[.int .i64 x, .iface 57 (.pointer (some ⟨N, 0, none⟩))] → V G w (.tup [.int .i64 x, .ifc 57 .opq]) r := by
    rintro x r N G w rfl
    exact .tup rfl (fun i c hc u hu => by
      match i, hc, hu with
      | 0, hc, hu => cases hc; cases hu; exact .int _ _
      | 1, hc, hu => cases hc; cases hu; exact .ifc (.opq rfl))
  cases hq : Lib.parseIntB 32 s.data.toList with
  | ok v => exact absurd hq (h v)
  | range =>
    exact (ACall.ofCalls (res := .tup [.int .i64 (Lib.intSat 32 s.data.toList), .ifc 57 .opq]) #[.string s, .int .i64 10, .int .i64 32] ⟨_, _, T.func_26, by kernel_rfl, rfl⟩ rfl fun w hgi =>
      let ⟨_, _, ⟨tp, p, hv⟩⟩ := (hgi : VarsOk w)
      (strconv_ParseInt_10_at32_range_var s (by omega) hq tp p w hv).mono fun e w' ⟨N, h, _, _, hb⟩ => ⟨_, h, hb, fun G => fin _ rfl⟩).q.mono (fun x e => ⟨_, _, e⟩)
  | _ =>
    exact (ACall.ofCalls (res := .tup [.int .i64 0, .ifc 57 .opq]) #[.string s, .int .i64 10, .int .i64 32] ⟨_, _, T.func_26, by kernel_rfl, rfl⟩ rfl fun w hgi =>
      let ⟨_, ⟨tp, p, hv⟩, _⟩ := (hgi : VarsOk w)
      (strconv_ParseInt_10_at32_syntax_var s (by omega) (fun v => h v) (fun e => by rw [hq] at e; cases e) tp p w hv).mono fun e w' ⟨N, h, _, _, hb⟩ => ⟨_, h, hb, fun G => fin _ rfl⟩).q.mono (fun x e => ⟨_, _, e⟩)
end Go.Proofs.AL
namespace Go.Proofs.AL
open Go Go.RowKit Go.Proofs.Tryd
set_option maxRecDepth 100000
set_option linter.unusedSimpArgs false
/-- A number as one of 32 bits. -/
def W (n : Int) : Int := IntKind.i32.wrap n
theorem W_eq (n : Int) : W n = (n + 2147483648) % 4294967296 - 2147483648 := by
  have h : W n = if 2147483648 ≤ n % 4294967296 then n % 4294967296 - 4294967296 else n % 4294967296 := by
    show (if (true && decide (n % 4294967296 ≥ 2147483648)) = true then n % 4294967296 - 4294967296 else n % 4294967296) = _
    by_cases h : 2147483648 ≤ n % 4294967296 <;> simp [h]
  rw [h]
  split <;> omega
theorem i64_eq (n : Int) : IntKind.i64.wrap n = (n + 9223372036854775808) % 18446744073709551616 - 9223372036854775808 := by
  have h : IntKind.i64.wrap n = if 9223372036854775808 ≤ n % 18446744073709551616 then n % 18446744073709551616 - 18446744073709551616 else n % 18446744073709551616 := by
    show (if (true && decide (n % 18446744073709551616 ≥ 9223372036854775808)) = true then n % 18446744073709551616 - 18446744073709551616 else n % 18446744073709551616) = _
    by_cases h : 9223372036854775808 ≤ n % 18446744073709551616 <;> simp [h]
  rw [h]
  split <;> omega
theorem W_ge (n : Int) : -2147483648 ≤ W n := by rw [W_eq]; omega
theorem W_le (n : Int) : W n ≤ 2147483647 := by rw [W_eq]; omega
theorem w64_id {n : Int} (h1 : -9223372036854775808 ≤ n) (h2 : n ≤ 9223372036854775807) : IntKind.i64.wrap n = n := by rw [i64_eq]; omega
theorem W_id {n : Int} (h1 : -2147483648 ≤ n) (h2 : n ≤ 2147483647) : W n = n := by rw [W_eq]; omega
theorem w64_W (n : Int) : IntKind.i64.wrap (W n) = W n := w64_id (by have := W_ge n; omega) (by have := W_le n; omega)
theorem W_add (n k : Int) : W (n + 4294967296 * k) = W n := by rw [W_eq, W_eq]; omega
theorem W_off (n : Int) : ∃ k, W n = n + 4294967296 * k := ⟨(W n - n) / 4294967296, by rw [W_eq]; omega⟩
theorem W_W (n : Int) : W (W n) = W n := W_id (W_ge n) (W_le n)
theorem wrap_ok (n : Int) : ACall cx 13 [.int .i64 n] (.int .i64 (W n)) none := by
  refine ACall.wpc (C := cx) T.func_13 (by kernel_rfl) rfl (by rfl) ?_
  simp [f13]
  exact (w64_W n).symm
theorem tmod32 (n : Int) : ∃ m, n.tmod 4294967296 = m ∧ (0 ≤ n → m = n % 4294967296) ∧ (n < 0 → m = -((-n) % 4294967296)) := by
  refine ⟨_, rfl, fun h => Int.tmod_eq_emod_of_nonneg h, fun h => ?_⟩
  have : n = -(-n) := by omega
  rw [this, Int.neg_tmod, Int.tmod_eq_emod_of_nonneg (by omega)]
  simp
theorem refWrap_ok (n : Int) (h1 : -9223372036854775808 ≤ n) (h2 : n ≤ 9223372036854775807) : ACall cx 14 [.int .i64 n] (.int .i64 (W n)) none := by
  refine ACall.wpc (C := cx) T.func_14 (by kernel_rfl) rfl (by rfl) ?_
  simp [f14]
  obtain ⟨m, hm, hp, hn⟩ := tmod32 n
  rw [hm]
  have hw := W_eq n
  refine split2_i (fun e1 => ?_) (fun e1 => ?_) <;> simp [e1]
  · simp at e1
    have w : IntKind.i64.wrap (m + 4294967296) = m + 4294967296 := w64_id (by omega) (by omega)
    rw [w]
    refine split2_i (fun e2 => ?_) (fun e2 => ?_) <;> simp [e2]
    · simp at e2
      rw [w64_id (by omega) (by omega)]
      omega
    · simp at e2
      omega
  · simp at e1
    refine split2_i (fun e2 => ?_) (fun e2 => ?_) <;> simp [e2]
    · simp at e2
      rw [w64_id (by omega) (by omega)]
      omega
    · simp at e2
      omega
theorem neg_ok (a : Int) : ACall cx 15 [.int .i64 a] (.int .i64 (W (-a))) none := by
  refine ACall.wpc (C := cx) T.func_15 (by kernel_rfl) rfl (by rfl) ?_
  simp [f15]
  refine callP_i (wrap_ok _) ?_
  simp
  refine callP_i (wrap_ok _) ?_
  simp
  have h1 := W_ge a
  have h2 := W_le a
  rw [w64_id (by omega) (by omega)]
  obtain ⟨k, hk⟩ := W_off a
  have : -(a + 4294967296 * k) = -a + 4294967296 * (-k) := by omega
  rw [hk, this, W_add]
/-! ### the numbers' own operators -/
theorem add_ok (x y : Int) : ACall cx 20 [.int .i32 x, .int .i32 y] (.tup [.int .i32 (W (x + y)), .int .i64 0]) none := by
  refine ACall.wpc (C := cx) T.func_20 (by kernel_rfl) rfl (by rfl) ?_
  simp [f20]
  rfl
theorem sub_ok (x y : Int) : ACall cx 21 [.int .i32 x, .int .i32 y] (.tup [.int .i32 (W (x - y)), .int .i64 0]) none := by
  refine ACall.wpc (C := cx) T.func_21 (by kernel_rfl) rfl (by rfl) ?_
  simp [f21]
  rfl
theorem times_ok (x y : Int) : ACall cx 22 [.int .i32 x, .int .i32 y] (.tup [.int .i32 (W (x * y)), .int .i64 0]) none := by
  refine ACall.wpc (C := cx) T.func_22 (by kernel_rfl) rfl (by rfl) ?_
  simp [f22]
  rfl
def byV (x y : Int) : Int × Int := if y = 0 then (0, 221) else (W (x.tdiv y), 0)
theorem by_ok (x y : Int) : ACall cx 23 [.int .i32 x, .int .i32 y] (.tup [.int .i32 (byV x y).1, .int .i64 (byV x y).2]) none := by
  refine ACall.wpc (C := cx) T.func_23 (by kernel_rfl) rfl (by rfl) ?_
  simp [f23]
  refine split2_i (fun e1 => ?_) (fun e1 => ?_) <;> simp [e1]
  · simp at e1
    subst e1
    simp [byV]
  · simp at e1
    refine split2_i (fun e2 => ?_) (fun e2 => ?_) <;> simp [e2]
    · simp at e2
      subst e2
      simp [byV, W]
    · simp [e1, byV, W]
def leftV (x y : Int) : Int × Int := if y = 0 then (W x, 221) else (W (x - W (y * W (x.tdiv y))), 0)
theorem left_ok (x y : Int) : ACall cx 24 [.int .i32 x, .int .i32 y] (.tup [.int .i32 (leftV x y).1, .int .i64 (leftV x y).2]) none := by
  refine ACall.wpc (C := cx) T.func_24 (by kernel_rfl) rfl (by rfl) ?_
  simp [f24]
  refine callP_i (by_ok _ _) ?_
  simp
  by_cases h : y = 0
  · subst h
    simp [byV, leftV, W]
    simp [show IntKind.i32.wrap 0 = 0 from rfl]
  · simp [byV, leftV, h, W]
theorem tmod_small {x y : Int} (h1 : -2147483648 ≤ x) (h2 : x ≤ 2147483647) : -2147483648 ≤ x.tmod y ∧ x.tmod y ≤ 2147483647 := by
  have h := Int.natAbs_tmod x y
  have h3 : x.natAbs % y.natAbs ≤ x.natAbs := Nat.mod_le _ _
  rcases Int.le_total 0 x with hx | hx
  · have := Int.tmod_nonneg y hx
    omega
  · have : x.tmod y ≤ 0 := by
      have e : x = -(-x) := by omega
      rw [e, Int.neg_tmod]
      have := Int.tmod_nonneg y (show 0 ≤ -x by omega)
      omega
    omega
theorem tdiv_small {x y : Int} (h1 : -2147483648 ≤ x) (h2 : x ≤ 2147483647) : -2147483648 ≤ x.tdiv y ∧ x.tdiv y ≤ 2147483648 := by
  have h := Int.natAbs_tdiv_le_natAbs x y
  omega
theorem left_eq {x y : Int} (h1 : -2147483648 ≤ x) (h2 : x ≤ 2147483647) : W (x - W (y * W (x.tdiv y))) = x.tmod y := by
  obtain ⟨k1, e1⟩ := W_off (x.tdiv y)
  obtain ⟨k2, e2⟩ := W_off (y * W (x.tdiv y))
  have e3 : y * W (x.tdiv y) = y * x.tdiv y + 4294967296 * (y * k1) := by rw [e1, Int.mul_add, ← Int.mul_assoc, Int.mul_comm y 4294967296, Int.mul_assoc]
  have e4 : x.tmod y = x - y * x.tdiv y := Int.tmod_def x y
  have e5 : x - W (y * W (x.tdiv y)) = x.tmod y + 4294967296 * (-(y * k1) - k2) := by rw [e2, e3, e4]; omega
  rw [e5, W_add]
  have := tmod_small (y := y) h1 h2
  exact W_id this.1 this.2
def doV (op : ByteArray) (a b : Int) : Int × Int :=
  if op.toList == [43] then (W (W a + W b), 0) else if op.toList == [45] then (W (W a - W b), 0) else if op.toList == [42] then (W (W a * W b), 0) else
  if op.toList == [47] then (if W b = 0 then (0, 221) else (W ((W a).tdiv (W b)), 0)) else if op.toList == [37] then (if W b = 0 then (0, 221) else ((W a).tmod (W b), 0)) else (0, 1)
theorem i32_W (n : Int) : IntKind.i32.wrap n = W n := rfl
set_option maxHeartbeats 4000000 in
theorem do_ok (op : ByteArray) (a b : Int) : ACall cx 9 [.str op, .int .i64 a, .int .i64 b] (.tup [.int .i64 (doV op a b).1, .int .i64 (doV op a b).2]) none := by
  refine ACall.wpc (C := cx) T.func_9 (by kernel_rfl) rfl (by rfl) ?_
  simp [f9]
  cases h1 : (op.toList == [43])
  rotate_left
  · simp [h1, i32_W, doV]
    refine callP_i (add_ok _ _) ?_
    simp [w64_W]
  cases h2 : (op.toList == [45])
  rotate_left
  · simp [h1, h2, i32_W, doV]
    refine callP_i (sub_ok _ _) ?_
    simp [w64_W]
  cases h3 : (op.toList == [42])
  rotate_left
  · simp [h1, h2, h3, i32_W, doV]
    refine callP_i (times_ok _ _) ?_
    simp [w64_W]
  cases h4 : (op.toList == [47])
  rotate_left
  · simp [h1, h2, h3, h4, i32_W, doV]
    refine callP_i (by_ok _ _) ?_
    by_cases hb : W b = 0 <;> simp [w64_W, byV, hb]
  cases h5 : (op.toList == [37])
  rotate_left
  · simp [h1, h2, h3, h4, h5, i32_W, doV]
    refine callP_i (left_ok _ _) ?_
    by_cases hb : W b = 0 <;> simp [w64_W, leftV, hb]
    rw [left_eq (W_ge a) (W_le a)]
  simp [h1, h2, h3, h4, h5, doV]
theorem lit_beq (op : ByteArray) (l : List UInt8) : (op.toList == l) = decide (op = ⟨l.toArray⟩) := by
  rw [ByteArray.toList_eq]
  by_cases h : op = ⟨l.toArray⟩
  · subst h; simp
  · rw [decide_eq_false h]
    refine beq_false_of_ne fun e => h ?_
    cases op
    simp at e
    subst e
    simp
theorem mul_small {x y : Int} (h1 : -2147483648 ≤ x) (h2 : x ≤ 2147483647) (h3 : -2147483648 ≤ y) (h4 : y ≤ 2147483647) : -4611686018427387904 ≤ x * y ∧ x * y ≤ 4611686018427387904 := by
  have h5 : (x * y).natAbs ≤ 2147483648 * 2147483648 := by
    rw [Int.natAbs_mul]
    exact Nat.mul_le_mul (by omega) (by omega)
  omega
def Fit64 (n : Int) : Prop := -9223372036854775808 ≤ n ∧ n ≤ 9223372036854775807
set_option maxHeartbeats 4000000 in
theorem refDo_ok (op : ByteArray) (a b : Int) (ha : Fit64 a) (hb : Fit64 b) : ACall cx 10 [.str op, .int .i64 a, .int .i64 b] (.tup [.int .i64 (doV op a b).1, .int .i64 (doV op a b).2]) none := by
  refine ACall.wpc (C := cx) T.func_10 (by kernel_rfl) rfl (by rfl) ?_
  simp [f10]
  refine callP_i (refWrap_ok _ ha.1 ha.2) ?_
  simp
  refine callP_i (refWrap_ok _ hb.1 hb.2) ?_
  simp
  have ag := W_ge a
  have al := W_le a
  have bg := W_ge b
  have bl := W_le b
  have g1 := (lit_beq op [43]).symm
  have g2 := (lit_beq op [45]).symm
  have g3 := (lit_beq op [42]).symm
  have g4 := (lit_beq op [47]).symm
  have g5 := (lit_beq op [37]).symm
  have dd := tdiv_small (y := W b) ag al
  have dm := tmod_small (y := W b) ag al
  simp only [g1]
  cases h1 : (op.toList == [43]) <;> simp [h1]
  rotate_left
  · rw [w64_id (by omega) (by omega)]
    refine callP_i (refWrap_ok _ (by omega) (by omega)) ?_
    simp [doV, h1]
  simp only [g2]
  cases h2 : (op.toList == [45]) <;> simp [h2]
  rotate_left
  · rw [w64_id (by omega) (by omega)]
    refine callP_i (refWrap_ok _ (by omega) (by omega)) ?_
    simp [doV, h1, h2]
  simp only [g3]
  cases h3 : (op.toList == [42]) <;> simp [h3]
  rotate_left
  · have hb := mul_small ag al bg bl
    rw [w64_id (by omega) (by omega)]
    refine callP_i (refWrap_ok _ (by omega) (by omega)) ?_
    simp [doV, h1, h2, h3]
  simp only [g4]
  cases h4 : (op.toList == [47]) <;> simp [h4]
  rotate_left
  · by_cases h0 : W b = 0
    · simp [h0, doV, h1, h2, h3, h4]
    · have e0 : (W b == 0) = false := by simpa using h0
      simp [e0, h0]
      simp only [g4, h4]
      simp
      rw [w64_id (by omega) (by omega)]
      refine callP_i (refWrap_ok _ (by omega) (by omega)) ?_
      simp [doV, h1, h2, h3, h4, h0]
  simp only [g5]
  cases h5 : (op.toList == [37]) <;> simp [h5]
  rotate_left
  · by_cases h0 : W b = 0
    · simp [h0, doV, h1, h2, h3, h4, h5]
    · have e0 : (W b == 0) = false := by simpa using h0
      simp [e0, h0]
      simp only [g4, h4]
      simp
      have e4 : W b * (W a).tdiv (W b) = W a - (W a).tmod (W b) := by have := Int.tmod_def (W a) (W b); omega
      rw [w64_id (n := (W a).tdiv (W b)) (by omega) (by omega), e4, w64_id (n := W a - (W a).tmod (W b)) (by omega) (by omega), w64_id (by omega) (by omega)]
      simp [doV, h1, h2, h3, h4, h5, h0]
      omega
  simp [doV, h1, h2, h3, h4, h5]
end Go.Proofs.AL
