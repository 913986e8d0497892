/- What the functions that the law HeapPlays reaches compute, and the law (part 1). -/
import Derived.Test.YtnhhanmkjpmcnaaDoorRows
import Derived.Test.YtnhhanmkjpmcnaaDoorTc
import Derived.Test.YtnhhanmkjpmcnaaDoorShelf
import Derived.ChangeArms
import Derived.SizedLaws
import Derived.DataElems
import Derived.WalkKit
import Derived.ProofKit
import Derived.OpenShut
import Derived.ShutString
import Derived.ChangeOld
import Derived.Below
import Derived.LaidMore
import Derived.Stop.Joined
import Derived.MakeChecks
import Derived.Lib.LaidTab
namespace Go.Proofs.AL
open Go Go.RowKit Go.Proofs.Tryd
set_option maxRecDepth 100000
set_option linter.unusedSimpArgs false
set_option linter.unusedVariables false
theorem var_below {P : Program} {w w' : World} {n : String} {cs : Array Value} (hb : Below w.heap.size w w') (h : w.var? P n = some cs) : w'.var? P n = some cs := by
  unfold World.var? at h ⊢
  obtain ⟨g, hg, h⟩ := Option.bind_eq_some_iff.1 h
  rw [hg, Option.bind_some]
  cases hq : w.heap[g]? with
  | none => rw [hq] at h; cases h
  | some o =>
    rw [hb.block g (Array.getElem?_eq_some_iff.1 hq).1, hq]
    rw [hq] at h
    exact h
theorem below_grown (B : Nat) (w : World) (hB : B ≤ w.heap.size) (k : Nat) (os : Array Obj) : Below B w (Go.Sort.grow (w.drewN k) os) :=
  ⟨rfl, rfl, rfl, by simp [Go.Sort.grow], fun j hj => by
    show (w.heap ++ os)[j]? = w.heap[j]?
    rw [Array.getElem?_append_left (by omega)]⟩
/-- What the package's variables hold. -/
def VarsOk (w : World) : Prop := Lib.TabIs prog w "internal/strconv.uint64pow10" .u64 Lib.pow10Tab
noncomputable def cx : Cx := ⟨prog, VarsOk, fun _ _ hb h1 => var_below hb h1, by kernel_rfl⟩
@[simp] theorem cx_P : cx.P = prog := rfl
/-- A contract that is told of values, for values that lead to no memory. -/
theorem ACall.ofCalls {C : Cx} {f : FuncId} {args : List AV} {res : AV} (vs0 : Array Value) (he : EntersF C.P f) (hv : args.map plainV? = vs0.toList.map some)
    (h : ∀ w, C.GI w → Calls C.P f vs0 w fun e w' => ∃ r, e = .returned r ∧ Below w.heap.size w w' ∧ ∀ G, V G w' res r) : ACall C f args res none := by
  refine ⟨he, fun m w vs hgi hz hl hV => ?_⟩
  have hlen : args.length = vs0.size := by have := congrArg List.length hv; simpa using this
  have e : vs = vs0 := by
    apply Array.ext
    · omega
    · intro i h1 h2
      have ha : i < args.length := by omega
      have hp : plainV? args[i] = some vs0[i] := by
        have := congrArg (·[i]?) hv
        simpa [ha, h2] using this
      exact (hV i args[i] vs[i] (List.getElem?_eq_getElem ha) (Array.getElem?_eq_getElem h1)).plain hp
  subst e
  refine (h w hgi).mono (fun e w' ⟨r, h1, h2, h3⟩ => ⟨r, m, h1, h2, fun _ _ => rfl, fun b hb => hz b (Nat.le_trans h2.size hb), h3 _, fun i e he => by cases he⟩)
theorem fmt_ok (n : Int) (h0 : -9223372036854775808 ≤ n) (h1 : n ≤ 9223372036854775807) : ACall cx 30 [.int .i64 n, .int .i64 10] (.str ⟨(Lib.itoa n).toArray⟩) none :=
  ACall.ofCalls #[.int .i64 n, .int .i64 10] ⟨_, _, T.func_30, by kernel_rfl, rfl⟩ rfl fun w hgi => (strconv_FormatInt_10 n h0 h1 w hgi).mono fun e w' ⟨h, k, os, hw⟩ => ⟨_, h, by subst hw; exact below_grown _ w (Nat.le_refl _) k os, fun G => .str _⟩
theorem fmtBool_ok (b : Bool) : ACall cx 28 [.bool b] (.str ⟨(Lib.formatBool b).toArray⟩) none :=
  ACall.ofCalls #[.bool b] ⟨_, _, T.func_28, by kernel_rfl, rfl⟩ rfl fun w hgi => (strconv_FormatBool b w).mono fun e w' ⟨h, hw⟩ => ⟨_, h, by subst hw; exact Below.refl _ _, fun G => .str _⟩
/-- A number as one of 32 bits. -/
def W (n : Int) : Int := IntKind.i32.wrap n
theorem W_eq (n : Int) : W n = (n + 2147483648) % 4294967296 - 2147483648 := by
  have h : W n = if 2147483648 ≤ n % 4294967296 then n % 4294967296 - 4294967296 else n % 4294967296 := by
    show (if (true && decide (n % 4294967296 ≥ 2147483648)) = true then n % 4294967296 - 4294967296 else n % 4294967296) = _
    by_cases h : 2147483648 ≤ n % 4294967296 <;> simp [h]
  rw [h]
  split <;> omega
theorem i64_eq (n : Int) : IntKind.i64.wrap n = (n + 9223372036854775808) % 18446744073709551616 - 9223372036854775808 := by
  have h : IntKind.i64.wrap n = if 9223372036854775808 ≤ n % 18446744073709551616 then n % 18446744073709551616 - 18446744073709551616 else n % 18446744073709551616 := by
    show (if (true && decide (n % 18446744073709551616 ≥ 9223372036854775808)) = true then n % 18446744073709551616 - 18446744073709551616 else n % 18446744073709551616) = _
    by_cases h : 9223372036854775808 ≤ n % 18446744073709551616 <;> simp [h]
  rw [h]
  split <;> omega
theorem W_ge (n : Int) : -2147483648 ≤ W n := by rw [W_eq]; omega
theorem W_le (n : Int) : W n ≤ 2147483647 := by rw [W_eq]; omega
theorem w64_id {n : Int} (h1 : -9223372036854775808 ≤ n) (h2 : n ≤ 9223372036854775807) : IntKind.i64.wrap n = n := by rw [i64_eq]; omega
theorem W_id {n : Int} (h1 : -2147483648 ≤ n) (h2 : n ≤ 2147483647) : W n = n := by rw [W_eq]; omega
theorem w64_W (n : Int) : IntKind.i64.wrap (W n) = W n := w64_id (by have := W_ge n; omega) (by have := W_le n; omega)
theorem W_add (n k : Int) : W (n + 4294967296 * k) = W n := by rw [W_eq, W_eq]; omega
theorem W_off (n : Int) : ∃ k, W n = n + 4294967296 * k := ⟨(W n - n) / 4294967296, by rw [W_eq]; omega⟩
theorem W_W (n : Int) : W (W n) = W n := W_id (W_ge n) (W_le n)
theorem wrap_ok (n : Int) : ACall cx 31 [.int .i64 n] (.int .i64 (W n)) none := by
  refine ACall.wpc (C := cx) T.func_31 (by kernel_rfl) rfl (by rfl) ?_
  simp [f31]
  exact (w64_W n).symm
theorem tmod32 (n : Int) : ∃ m, n.tmod 4294967296 = m ∧ (0 ≤ n → m = n % 4294967296) ∧ (n < 0 → m = -((-n) % 4294967296)) := by
  refine ⟨_, rfl, fun h => Int.tmod_eq_emod_of_nonneg h, fun h => ?_⟩
  have : n = -(-n) := by omega
  rw [this, Int.neg_tmod, Int.tmod_eq_emod_of_nonneg (by omega)]
  simp
theorem refWrap_ok (n : Int) (h1 : -9223372036854775808 ≤ n) (h2 : n ≤ 9223372036854775807) : ACall cx 33 [.int .i64 n] (.int .i64 (W n)) none := by
  refine ACall.wpc (C := cx) T.func_33 (by kernel_rfl) rfl (by rfl) ?_
  simp [f33]
  obtain ⟨m, hm, hp, hn⟩ := tmod32 n
  rw [hm]
  have hw := W_eq n
  refine split2_i (fun e1 => ?_) (fun e1 => ?_) <;> simp [e1]
  · simp at e1
    have w : IntKind.i64.wrap (m + 4294967296) = m + 4294967296 := w64_id (by omega) (by omega)
    rw [w]
    refine split2_i (fun e2 => ?_) (fun e2 => ?_) <;> simp [e2]
    · simp at e2
      rw [w64_id (by omega) (by omega)]
      omega
    · simp at e2
      omega
  · simp at e1
    refine split2_i (fun e2 => ?_) (fun e2 => ?_) <;> simp [e2]
    · simp at e2
      rw [w64_id (by omega) (by omega)]
      omega
    · simp at e2
      omega
theorem i32_W (n : Int) : IntKind.i32.wrap n = W n := rfl
def Fit64 (n : Int) : Prop := -9223372036854775808 ≤ n ∧ n ≤ 9223372036854775807
def itoaB (n : Int) : ByteArray := ⟨(Lib.itoa n).toArray⟩
theorem show_ok (a : Int) : ACall cx 27 [.int .i64 a] (.str (itoaB (W a))) none := by
  refine ACall.wpc (C := cx) T.func_27 (by kernel_rfl) rfl (by rfl) ?_
  simp [f27]
  refine callP_i (wrap_ok _) ?_
  simp
  refine callP_i (fmt_ok _ (by have := W_ge a; omega) (by have := W_le a; omega)) ?_
  simp [itoaB]
end Go.Proofs.AL
namespace Go.Proofs.AL
open Go
/-! ### numerals (no program in sight) -/
def dval (n : Nat) (l : List UInt8) : Nat := l.foldl (fun n c => n * 10 + (c.toNat - 48)) n
def isDig (c : UInt8) : Prop := 48 ≤ c.toNat ∧ c.toNat ≤ 57
theorem dig_nat {d : Nat} (h : d < 10) : (UInt8.ofNat (48 + d)).toNat = 48 + d := by
  rw [UInt8.toNat_ofNat']; omega
theorem dec_len : ∀ (k u : Nat), 1 ≤ k → u < 10 ^ k → (Lib.decDigits u).length ≤ k := by
  intro k
  induction k with
  | zero => intro u h; omega
  | succ k ih =>
    intro u _ hu
    rw [Lib.decDigits]
    split
    · simp
    · rename_i h
      rcases Nat.eq_zero_or_pos k with rfl | hk
      · simp at hu; omega
      · have := ih (u / 10) hk (by rw [Nat.pow_succ] at hu; omega)
        rw [List.length_append]
        simp
        exact this
end Go.Proofs.AL
namespace Go.Proofs.AL
open Go Go.RowKit Go.Proofs.Tryd
set_option maxRecDepth 100000
set_option linter.unusedSimpArgs false
def decB (u : Nat) : ByteArray := ⟨(Lib.decDigits u).toArray⟩
set_option maxHeartbeats 4000000 in
theorem digits_ok (u : Nat) (hu : u ≤ 4294967296) : ACall cx 34 [.int .i64 (u : Nat)] (.str (decB u)) none := by
  refine ACall.wpc (C := cx) T.func_34 (by kernel_rfl) rfl (by rfl) ?_
  simp [f34]
  refine loopK [] (fun (p : Nat × ByteArray) _ => Lib.decDigits u = Lib.decDigits p.1 ++ p.2.data.toList ∧ p.1 ≤ u) (fun p => [(0, .int .i64 (p.1 : Nat)), (3, .str p.2)]) (fun _ => []) (fun _ => []) (fun p => p.1) (u, ⟨#[]⟩) (by simp) (by simp) [] rfl (by simp) ?_
  rintro ⟨n, b⟩ nx g ⟨hb, hn⟩ - -
  have tm : (n : Int).tmod 10 = ((n % 10 : Nat) : Int) := by rw [Int.tmod_eq_emod_of_nonneg (by omega)]; omega
  have v1 : IntKind.u8.wrap (IntKind.i64.wrap (48 + (n : Int).tmod 10)) = ((48 + n % 10 : Nat) : Int) := by
    rw [tm, w64_id (by omega) (by omega)]
    show (48 + ((n % 10 : Nat) : Int)) % 256 = _
    omega
  have hn' : n ≤ u := hn
  have v2 : IntKind.i64.wrap ((n : Int) / 10) = ((n / 10 : Nat) : Int) := by rw [w64_id (by omega) (by omega)]; omega
  simp only [] at hb
  have hl : b.size ≤ 10 := by
    have h1 := dec_len 10 u (by decide) (by omega)
    rw [hb, List.length_append] at h1
    have h2 : b.data.toList.length = b.size := rfl
    omega
  have hz : ∀ k, (bytesB [k]).size = 1 := fun k => rfl
  simp
  rw [v1, v2]
  refine ⟨by rw [hz]; omega, ?_⟩
  refine split2_i (fun e1 => ?_) (fun e1 => ?_) <;> simp [e1]
  · simp at e1
    have h10 : n < 10 := by omega
    rw [Lib.decDigits_one h10] at hb
    refine ByteArray.ext ?_
    have hq : (48 + (n : Int) % 10).toNat = 48 + n := by omega
    simp [decB, hb, bytesB, hq]
  · simp at e1
    refine againK_i (n / 10, bytesB [((48 + n % 10 : Nat) : Int)] ++ b) g ?_ ?_ (by simp) rfl (by simp)
    · refine ⟨?_, by show n / 10 ≤ u; omega⟩
      rw [hb, Lib.decDigits, dif_neg (show ¬ n < 10 by omega)]
      have hq : (48 + (n : Int) % 10).toNat = 48 + n % 10 := by omega
      simp [bytesB, hq]
    · show n / 10 < n
      omega
theorem refShow_ok (a : Int) (ha : Fit64 a) : ACall cx 29 [.int .i64 a] (.str (itoaB (W a))) none := by
  refine ACall.wpc (C := cx) T.func_29 (by kernel_rfl) rfl (by rfl) ?_
  simp [f29]
  refine callP_i (refWrap_ok _ ha.1 ha.2) ?_
  simp
  have ag := W_ge a
  have al := W_le a
  refine split2_i (fun e1 => ?_) (fun e1 => ?_) <;> simp [e1]
  · simp at e1
    rw [w64_id (by omega) (by omega), show -W a = ((W a).natAbs : Nat) by omega]
    refine callP_i (digits_ok _ (by omega)) ?_
    have hl : (decB (W a).natAbs).size ≤ 10 := dec_len 10 _ (by decide) (by omega)
    simp
    refine ⟨by have : (⟨#[45]⟩ : ByteArray).size = 1 := rfl; omega, ?_⟩
    refine ByteArray.ext ?_
    simp [itoaB, decB, Lib.itoa, e1]
  · simp at e1
    rw [show W a = ((W a).toNat : Nat) by omega]
    refine callP_i (digits_ok _ (by omega)) ?_
    simp
    rw [show max (W a) 0 = W a by omega]
    have : ¬ W a < 0 := by omega
    simp [itoaB, decB, Lib.itoa, this]
end Go.Proofs.AL
namespace Go.Proofs.AL
open Go Go.RowKit Go.Proofs.Tryd
set_option maxRecDepth 100000
set_option linter.unusedSimpArgs false
def strs (l : List ByteArray) : List (List AV) := l.map fun s => [.str s]
@[simp] theorem strs_length (l : List ByteArray) : (strs l).length = l.length := by simp [strs]
@[simp] theorem strs_all (l : List ByteArray) : (∀ el ∈ strs l, el.length = 1) = True := by simp [strs]
@[simp] theorem strs_nil : strs [] = [] := rfl
@[simp] theorem strs_eq_nil (l : List ByteArray) : (strs l = []) = (l = []) := by simp [strs]
@[simp] theorem strs_snoc (l : List ByteArray) (s : ByteArray) : strs l ++ [[AV.str s]] = strs (l ++ [s]) := by simp [strs]
@[simp] theorem strs_app (a b : List ByteArray) : strs a ++ strs b = strs (a ++ b) := by simp [strs]
theorem strs_pu : ∀ l : List ByteArray, puLL (strs l) = true
  | [] => rfl
  | x :: l => by
    have : strs (x :: l) = [.str x] :: strs l := rfl
    rw [this]; simp [puLL, puL, pu, strs_pu l]
attribute [simp] strs_pu
@[simp] theorem strs_er (l : List ByteArray) : (strs l).map (List.map er1) = strs l := by simp [strs, er1]
theorem strs_getD {l : List ByteArray} {i : Nat} (h : i < l.length) : (strs l).getD i [] = [.str l[i]] := by simp [strs, h]
@[simp high] theorem strs_idx {tk : Nat} {l : List ByteArray} {k : IntKind} {n : Int} : idxAddr prog 26 (.sl tk (strs l)) (.int k n) = if 0 ≤ n ∧ n < l.length then some (.cptr [.str (l.getD n.toNat .empty)]) else none := by
  rw [idxAddr_low]
  simp only [T.elT_26, T.szOf_9, Option.bind_some, strs_length, strs_all, if_true]
  by_cases h : 0 ≤ n ∧ n < l.length
  · rw [if_pos h, if_pos h, strs_getD (by omega)]
    have : n.toNat < l.length := by omega
    simp [this]
  · rw [if_neg h, if_neg h]
theorem b16 {n : Nat} (h : n ≤ 1000000) : n * 16 ≤ 140737488355328 := by omega
end Go.Proofs.AL
namespace Go.Proofs.AL
open Go Go.RowKit Go.Proofs.Tryd
set_option maxRecDepth 100000
set_option linter.unusedSimpArgs false
def firstK (s : ByteArray) : Int := if s = ⟨#[105, 110, 116]⟩ then 1 else if s = ⟨#[98, 111, 111, 108, 101, 97, 110]⟩ then 2 else 0
theorem first_ok (s : ByteArray) : ACall cx 21 [.str s] (.agg [.int .i64 (firstK s), .int .i64 0]) none := by
  refine ACall.wpc (C := cx) T.func_21 (by kernel_rfl) rfl (by rfl) ?_
  simp [f21]
  by_cases h1 : s = ⟨#[105, 110, 116]⟩
  · simp [h1, firstK]
  · by_cases h2 : s = ⟨#[98, 111, 111, 108, 101, 97, 110]⟩
    · simp [h2, firstK]
    · simp [h1, h2, firstK]
theorem refFirst_ok (s : ByteArray) : ACall cx 22 [.str s] (.agg [.int .i64 (firstK s), .int .i64 0]) none := by
  refine ACall.wpc (C := cx) T.func_22 (by kernel_rfl) rfl (by rfl) ?_
  simp [f22]
  by_cases h1 : s = ⟨#[105, 110, 116]⟩
  · simp [h1, firstK]
  · by_cases h2 : s = ⟨#[98, 111, 111, 108, 101, 97, 110]⟩
    · simp [h2, firstK]
    · simp [h1, h2, firstK]
/-- What a method that only reads hands back. -/
def Rd (r : AV) (ob : Obs) (lv : Lvs) (nx : Nat) (lp : Lps) (res : AV) (s2 : AS) : Prop := res = r ∧ ∃ rest, s2.ob = ob ++ rest ∧ s2.live = look lv ∧ s2.next = nx ∧ s2.lp = lp
def isObj (cl : List ByteArray) (a b : Int) : Bool := decide (a = 3) && decide (1 ≤ b) && decide (b ≤ cl.length)
def which (cl : List ByteArray) (a b : Int) : Int × Int := if isObj cl a b = true then (b, 0) else if a = 0 ∨ a = 3 then (0, 220) else if a = 1 ∧ b = 0 then (0, 0) else (0, 1)
def atV (cl : List ByteArray) (a b : Int) (s : ByteArray) : List AV := if (which cl a b).2 = 0 then [.int .i64 (which cl a b).1, .str s] else [.int .i64 0, .str .empty]
abbrev Fld := (Int × ByteArray) × (Int × Int)
def keyV (k : Int × ByteArray) : AV := .agg [.int .i64 k.1, .str k.2]
def valV (v : Int × Int) : AV := .agg [.int .i64 v.1, .int .i64 v.2]
def keysOf (l : List Fld) : List AV := l.map fun q => keyV q.1
def valsOf (l : List Fld) : List AV := l.map fun q => valV q.2
def lookK : List Fld → Int × ByteArray → Option (Int × Int)
  | [], _ => none
  | q :: l, k => if k = q.1 then some q.2 else lookK l k
def putK : List Fld → Int × ByteArray → Int × Int → List Fld
  | [], k, x => [(k, x)]
  | q :: l, k, x => if k = q.1 then (q.1, x) :: l else q :: putK l k x
theorem toList_beq (a b : ByteArray) : (a.toList == b.toList) = decide (a = b) := bytes_beq a b
theorem kEq_key (a b : Int × ByteArray) : kEq prog 64 (keyV a) (keyV b) = some (decide (a = b)) := by
  have hf : flatT prog 64 = some [.int, .str] := by kernel_rfl
  simp only [kEq, keyV, hf, Option.bind_some]
  simp [eqL]
  rw [Bool.eq_iff_iff, Bool.and_eq_true, beq_iff_eq, decide_eq_true_eq, decide_eq_true_eq, Prod.ext_iff]
theorem kOk_key (a : Int × ByteArray) : kOk prog 64 (keyV a) = true := by
  have hf : flatT prog 64 = some [.int, .str] := by kernel_rfl
  simp [kOk, keyV, hf, fitL]
theorem mget_keys (l : List Fld) (k : Int × ByteArray) : mget prog 64 31 (keysOf l) (valsOf l) (keyV k) = some (match lookK l k with | some v => (valV v, true) | none => (valV (0, 0), false)) := by
  unfold mget
  rw [if_pos (kOk_key k)]
  have key : ∀ (l : List Fld), ∃ r, kFind prog 64 (keyV k) (keysOf l) = some r ∧ (match r with | some i => (valsOf l)[i]? = (lookK l k).map valV ∧ (lookK l k).isSome = true | none => lookK l k = none) := by
    intro l
    induction l with
    | nil => exact ⟨none, rfl, rfl⟩
    | cons q l ih =>
      obtain ⟨r, h1, h2⟩ := ih
      show ∃ r, kFind prog 64 (keyV k) (keyV q.1 :: keysOf l) = some r ∧ _
      unfold kFind
      rw [kEq_key]
      by_cases e : k = q.1
      · refine ⟨some 0, by simp [e], ?_⟩
        simp [lookK, e, valsOf]
      · simp only [e, decide_false, h1, Option.map_some]
        refine ⟨_, rfl, ?_⟩
        cases r with
        | none => simpa [lookK, e] using h2
        | some i => simpa [lookK, e, valsOf] using h2
  obtain ⟨r, h1, h2⟩ := key l
  rw [h1, Option.bind_some]
  cases r with
  | none =>
    simp only at h2
    rw [h2]
    have hz : zeroT prog 31 = some (valV (0, 0)) := by kernel_rfl
    simp [hz]
  | some i =>
    obtain ⟨h3, h4⟩ := h2
    obtain ⟨v, hv⟩ := Option.isSome_iff_exists.1 h4
    rw [hv] at h3 ⊢
    simp [h3]
theorem mput_keys (l : List Fld) (k : Int × ByteArray) (x : Int × Int) : mput prog 64 (keysOf l) (valsOf l) (keyV k) (valV x) = some (keysOf (putK l k x), valsOf (putK l k x)) := by
  unfold mput
  rw [if_pos (kOk_key k)]
  have key : ∀ (l : List Fld), ∃ r, kFind prog 64 (keyV k) (keysOf l) = some r ∧ (match r with | some i => keysOf (putK l k x) = keysOf l ∧ valsOf (putK l k x) = (valsOf l).set i (valV x) | none => keysOf (putK l k x) = keysOf l ++ [keyV k] ∧ valsOf (putK l k x) = valsOf l ++ [valV x]) := by
    intro l
    induction l with
    | nil => exact ⟨none, rfl, rfl, rfl⟩
    | cons q l ih =>
      obtain ⟨r, h1, h2⟩ := ih
      show ∃ r, kFind prog 64 (keyV k) (keyV q.1 :: keysOf l) = some r ∧ _
      unfold kFind
      rw [kEq_key]
      by_cases e : k = q.1
      · refine ⟨some 0, by simp [e], ?_⟩
        simp [putK, e, valsOf, keysOf]
      · simp only [e, decide_false, h1, Option.map_some]
        refine ⟨_, rfl, ?_⟩
        cases r with
        | none => simpa [putK, e, valsOf, keysOf] using h2
        | some i => simpa [putK, e, valsOf, keysOf] using h2
  obtain ⟨r, h1, h2⟩ := key l
  rw [h1, Option.map_some]
  cases r with
  | none => simp only at h2; rw [h2.1, h2.2]
  | some i => simp only at h2; rw [h2.1, h2.2]
theorem mget_key (l : List Fld) (o : Int) (s : ByteArray) : mget prog 64 31 (keysOf l) (valsOf l) (.agg [.int .i64 o, .str s]) = some (match lookK l (o, s) with | some v => (valV v, true) | none => (valV (0, 0), false)) := mget_keys l (o, s)
theorem mput_key (l : List Fld) (o : Int) (s : ByteArray) (x y : Int) : mput prog 64 (keysOf l) (valsOf l) (.agg [.int .i64 o, .str s]) (.agg [.int .i64 x, .int .i64 y]) = some (keysOf (putK l (o, s) (x, y)), valsOf (putK l (o, s) (x, y))) := mput_keys l (o, s) (x, y)
/-- Where a heap lies. -/
abbrev hob (l : List Fld) (k : Nat) (cl : List ByteArray) (g : Obs) : Obs := [.mpo (keysOf l) (valsOf l)] :: [.sl k (strs cl), .mp 0] :: g
section
variable {l : List Fld} {g : Obs} {lv : Lvs} {nx : Nat} {lp : Lps} {N : Nat} {m : List (Nat × AV)} {k : Nat} {cl : List ByteArray}
theorem object_j (a b : Int) : JCall cx 25 [.ptr 1 0, .agg [.int .i64 a, .int .i64 b]] (S N m (hob l k cl g) lv nx lp) (Rd (.bool (isObj cl a b)) (hob l k cl g) lv nx lp) := by
  refine JCall.wpc (C := cx) T.func_25 (by kernel_rfl) rfl (by rfl) (fun hL => ?_)
  clear hL
  by_cases e1 : a = 3
  · by_cases e2 : 1 ≤ b
    · simp [f25, e1, e2]
      refine ⟨by kernel_rfl, ?_⟩
      exact ⟨by simp [isObj, e2], _, rfl, rfl, rfl, rfl⟩
    · simp [f25, e1, e2]
      refine ⟨by kernel_rfl, ?_⟩
      exact ⟨by simp [isObj, e2], _, rfl, rfl, rfl, rfl⟩
  · have e1' : (a == 3) = false := by simp [e1]
    simp [f25, e1']
    refine ⟨by kernel_rfl, ?_⟩
    exact ⟨by simp [isObj, e1], _, rfl, rfl, rfl, rfl⟩
theorem many_j : JCall cx 18 [.ptr 1 0] (S N m (hob l k cl g) lv nx lp) (Rd (.int .i64 cl.length) (hob l k cl g) lv nx lp) := by
  refine JCall.wpc (C := cx) T.func_18 (by kernel_rfl) rfl (by rfl) (fun hL => ?_)
  clear hL
  simp [f18]
  exact ⟨rfl, [], by simp, rfl, rfl, rfl⟩
def classV (cl : List ByteArray) (a b : Int) : AV := if isObj cl a b = true then .tup [.str (cl.getD (b - 1).toNat .empty), .bool true] else .tup [.str .empty, .bool false]
theorem class_j (a b : Int) (hcl : cl.length ≤ 1000000) : JCall cx 16 [.ptr 1 0, .agg [.int .i64 a, .int .i64 b]] (S N m (hob l k cl g) lv nx lp) (Rd (classV cl a b) (hob l k cl g) lv nx lp) := by
  refine JCall.wpc (C := cx) T.func_16 (by kernel_rfl) rfl (by rfl) (fun hL => ?_)
  clear hL
  simp [f16]
  refine jcallP_i (object_j a b (g := g ++ [[.int .i64 a, .int .i64 b]])) ?_
  rintro _ s2 ⟨rfl, rest, e1, e2, e3, e4⟩
  rw [S_ret e1 e2 e3 e4]
  by_cases h : isObj cl a b = true
  · have h' := h
    simp [isObj] at h'
    obtain ⟨⟨rfl, h2⟩, h3⟩ := h'
    have w : IntKind.i64.wrap (b - 1) = b - 1 := wrap64_in (by omega) (by omega)
    simp [h, w, show 1 ≤ b by omega, show b - 1 < cl.length by omega]
    refine ⟨by kernel_rfl, ?_⟩
    exact ⟨by simp [classV, h], _, rfl, rfl, rfl, rfl⟩
  · simp [h]
    exact ⟨by simp [classV, h]; rfl, _, rfl, rfl, rfl, rfl⟩
theorem at_j (a b : Int) (s : ByteArray) : JCall cx 23 [.ptr 1 0, .agg [.int .i64 a, .int .i64 b], .str s] (S N m (hob l k cl g) lv nx lp) (Rd (.tup [.agg (atV cl a b s), .int .i64 (which cl a b).2]) (hob l k cl g) lv nx lp) := by
  refine JCall.wpc (C := cx) T.func_23 (by kernel_rfl) rfl (by rfl) (fun hL => ?_)
  clear hL
  simp [f23]
  refine jcallP_i (object_j a b (g := g ++ [[.int .i64 a, .int .i64 b], [.int .i64 0, .str .empty]])) ?_
  rintro _ s2 ⟨rfl, rest, e1, e2, e3, e4⟩
  rw [S_ret e1 e2 e3 e4]
  by_cases h : isObj cl a b = true
  · simp [h]
    exact ⟨by simp [which, atV, h], _, rfl, rfl, rfl, rfl⟩
  · simp [h]
    by_cases h0 : a = 0
    · simp [h0]
      subst h0
      exact ⟨by simp [which, atV, isObj], _, rfl, rfl, rfl, rfl⟩
    · by_cases h3 : a = 3
      · subst h3
        simp
        exact ⟨by simp [which, atV, h], _, rfl, rfl, rfl, rfl⟩
      · by_cases h1 : a = 1 ∧ b = 0
        · obtain ⟨rfl, rfl⟩ := h1
          simp
          exact ⟨by simp [which, atV, isObj], _, rfl, rfl, rfl, rfl⟩
        · have n0 : (a == 0) = false := by simp [h0]
          have n3 : (a == 3) = false := by simp [h3]
          have n1 : (a == 1 && b == 0) = false := by
            rw [Bool.and_eq_false_iff]
            by_cases e : a = 1
            · exact .inr (by simp; intro e2; exact h1 ⟨e, e2⟩)
            · exact .inl (by simp [e])
          simp [n0, n3, n1]
          exact ⟨by simp [which, atV, h, h0, h3, h1], _, rfl, rfl, rfl, rfl⟩
def getV (cl : List ByteArray) (l : List Fld) (a b : Int) (s ty : ByteArray) : AV :=
  if (which cl a b).2 = 0 then .tup [(match lookK l ((which cl a b).1, s) with | some v => valV v | none => valV (firstK ty, 0)), .int .i64 0] else .tup [valV (0, 0), .int .i64 (which cl a b).2]
theorem get_j (a b : Int) (s ty : ByteArray) : JCall cx 12 [.ptr 1 0, .agg [.int .i64 a, .int .i64 b], .str s, .str ty] (S N m (hob l k cl g) lv nx lp) (Rd (getV cl l a b s ty) (hob l k cl g) lv nx lp) := by
  refine JCall.wpc (C := cx) T.func_12 (by kernel_rfl) rfl (by rfl) (fun hL => ?_)
  clear hL
  simp [f12]
  refine jcallP_i (at_j a b s (g := g ++ [[.int .i64 a, .int .i64 b], [.int .i64 0, .int .i64 0]])) ?_
  rintro _ s2 ⟨rfl, rest, e1, e2, e3, e4⟩
  rw [S_ret e1 e2 e3 e4]
  by_cases h : (which cl a b).2 = 0
  · have hat : atV cl a b s = [.int .i64 (which cl a b).1, .str s] := by simp [atV, h]
    simp [hat, h, -mget, mget_key]
    cases hl : lookK l ((which cl a b).1, s) with
    | none =>
      simp [valV]
      refine ⟨?_, ?_⟩
      · rw [show List.length g + (rest.length + 1 + 1 + 1) = List.length g + rest.length + 3 by omega, show List.length g + (rest.length + 1 + 1) = List.length g + rest.length + 2 by omega]
        generalize List.length g + rest.length = q
        revert q
        refine psafe_all 2 ?_ ?_
        · intro q; simp [Cls.sh] <;> omega
        · kernel_rfl
      refine callP_i (first_ok ty) ?_
      simp
      exact ⟨by simp [getV, h, hl, valV], _, rfl, rfl, rfl, rfl⟩
    | some v =>
      simp [valV]
      refine ⟨?_, ?_⟩
      · rw [show List.length g + (rest.length + 1 + 1 + 1) = List.length g + rest.length + 3 by omega, show List.length g + (rest.length + 1 + 1) = List.length g + rest.length + 2 by omega]
        generalize List.length g + rest.length = q
        revert q
        refine psafe_all 2 ?_ ?_
        · intro q; simp [Cls.sh] <;> omega
        · kernel_rfl
      exact ⟨by simp [getV, h, hl, valV], _, rfl, rfl, rfl, rfl⟩
  · have hb : ((which cl a b).2 != 0) = true := by simp [h]
    have hat : atV cl a b s = [.int .i64 0, .str .empty] := by simp [atV, h]
    simp [hat, hb]
    exact ⟨by simp [getV, h, valV], _, rfl, rfl, rfl, rfl⟩
/-- What setting does. -/
def setF (cl : List ByteArray) (l : List Fld) (a b : Int) (s : ByteArray) (x : Int × Int) : List Fld := if (which cl a b).2 = 0 then putK l ((which cl a b).1, s) x else l
theorem set_j (a b : Int) (s : ByteArray) (x y : Int) : JCall cx 14 [.ptr 1 0, .agg [.int .i64 a, .int .i64 b], .str s, .agg [.int .i64 x, .int .i64 y]] (S N m (hob l k cl g) lv nx lp) (Rd (.int .i64 (which cl a b).2) (hob (setF cl l a b s (x, y)) k cl g) lv nx lp) := by
  refine JCall.wpc (C := cx) T.func_14 (by kernel_rfl) rfl (by rfl) (fun hL => ?_)
  clear hL
  simp [f14]
  refine jcallP_i (at_j a b s (g := g ++ [[.int .i64 a, .int .i64 b], [.int .i64 x, .int .i64 y]])) ?_
  rintro _ s2 ⟨rfl, rest, e1, e2, e3, e4⟩
  rw [S_ret e1 e2 e3 e4]
  by_cases h : (which cl a b).2 = 0
  · have hat : atV cl a b s = [.int .i64 (which cl a b).1, .str s] := by simp [atV, h]
    simp [hat, h, -mput, mput_key]
    refine ⟨?_, ?_⟩
    · kernel_rfl
    · exact ⟨by simp [h], _, by simp [setF, h]; rfl, rfl, rfl, rfl⟩
  · have hb : ((which cl a b).2 == 0) = false := by simp [h]
    have hat : atV cl a b s = [.int .i64 0, .str .empty] := by simp [atV, h]
    simp [hat, hb]
    exact ⟨rfl, _, by simp [setF, h]; rfl, rfl, rfl, rfl⟩
theorem make_j (c : ByteArray) (hk : k ≠ 0) (hk2 : k ≠ 2) (hkn : k < nx) (hnx : 3 ≤ nx) (hcl : cl.length ≤ 10000) (hlv : look lv k = some (.ty 9)) (hl0 : look lv 0 = none) : JCall cx 9 [.ptr 1 0, .str c] (S N m (hob l k cl g) lv nx lp)
    (fun r s2 => if cl.length < 10000 then Rd (.tup [.agg [.int .i64 3, .int .i64 (cl.length + 1)], .int .i64 0]) (hob l nx (cl ++ [c]) g) ((nx, .ty 9) :: rmv k lv) (nx + 1) lp r s2 else Rd (.tup [.agg [.int .i64 0, .int .i64 0], .int .i64 2]) (hob l k cl g) lv nx lp r s2) := by
  refine JCall.wpc (C := cx) T.func_9 (by kernel_rfl) rfl (by rfl) (fun hL => ?_)
  clear hL
  have hnk : ¬ nx = k := by omega
  have hn0 : ¬ nx = 0 := by omega
  by_cases h : cl.length < 10000
  · have h1 : ¬ (10000 : Int) ≤ cl.length := by omega
    simp [f9, h1, hk, hk2, hlv, hnk, hn0, hl0]
    refine ⟨b16 (by omega), ?_⟩
    rw [if_pos h]
    exact ⟨rfl, _, rfl, rfl, rfl, rfl⟩
  · have h1 : (10000 : Int) ≤ cl.length := by omega
    simp [f9, h1]
    rw [if_neg h]
    exact ⟨rfl, _, rfl, rfl, rfl, rfl⟩
end
end Go.Proofs.AL
namespace Go.Proofs.AL
open Go Go.RowKit Go.Proofs.Tryd
set_option maxRecDepth 100000
set_option linter.unusedSimpArgs false
/-- None of a row may be appended to. -/
theorem jcallP_tok1 {C : Cx} {f : FuncId} {args : List AV} {K : Ph → AV → AS → Prop} {N : Nat} {m : List (Nat × AV)} {ob : Obs} {lv : Lvs} {nx : Nat} {lp : Lps} (T : TypeId) (h : jcallP C f args (S N m ob ((1, .ty T) :: lv) nx lp) K) : jcallP C f args (S N m ob lv nx lp) K := by
  obtain ⟨L, h1, h2⟩ := h
  refine ⟨L, ⟨h1.1, fun E G a w vs hR hl hV => h1.2 E G a w vs (hR.weak ⟨rfl, fun _ _ h => h, rfl, fun i e he => ?_, rfl, fun _ _ h => h⟩) hl hV⟩, h2⟩
  have he : (if 1 = i then some (Tk.ty T) else look lv i) = some e := he
  by_cases q : 1 = i
  · rw [if_pos q] at he; cases he; exact .inl ⟨q.symm, rfl⟩
  · rw [if_neg q] at he; exact .inr he
def showV (k n : Int) : ByteArray := if k = 1 then itoaB (W n) else if k = 2 then (if n = 1 then ⟨#[116, 114, 117, 101]⟩ else ⟨#[102, 97, 108, 115, 101]⟩) else if k = 3 then ⟨#[111, 98, 106, 101, 99, 116]⟩ else ⟨#[110, 117, 108, 108]⟩
theorem hshow_ok (k n : Int) : ACall cx 19 [.agg [.int .i64 k, .int .i64 n]] (.str (showV k n)) none := by
  refine ACall.wpc (C := cx) T.func_19 (by kernel_rfl) rfl (by rfl) ?_
  by_cases h1 : k = 1
  · subst h1
    simp [f19]
    refine callP_i (show_ok n) ?_
    simp [showV]
  · have n1 : (k == 1) = false := by simp [h1]
    by_cases h2 : k = 2
    · subst h2
      simp [f19]
      refine callP_i (fmtBool_ok (n == 1)) ?_
      by_cases h3 : n = 1
      · subst h3
        simp [showV, Lib.formatBool]
        kernel_rfl
      · have n3 : (n == 1) = false := by simp [h3]
        simp [showV, Lib.formatBool, n3, h3]
        kernel_rfl
    · have n2 : (k == 2) = false := by simp [h2]
      by_cases h3 : k = 3
      · subst h3
        simp [f19, showV]
      · have n3 : (k == 3) = false := by simp [h3]
        simp [f19, showV, n1, n2, n3, h1, h2, h3]
theorem hrefShow_ok (k n : Int) (hn : Fit64 n) : ACall cx 20 [.agg [.int .i64 k, .int .i64 n]] (.str (showV k n)) none := by
  refine ACall.wpc (C := cx) T.func_20 (by kernel_rfl) rfl (by rfl) ?_
  by_cases h1 : k = 1
  · subst h1
    simp [f20]
    refine callP_i (refShow_ok n hn) ?_
    simp [showV]
  · have n1 : (k == 1) = false := by simp [h1]
    by_cases h2 : k = 2
    · subst h2
      by_cases h3 : n = 1
      · subst h3
        simp [f20, showV]
      · have n3 : (n == 1) = false := by simp [h3]
        simp [f20, showV, n3, h3]
    · have n2 : (k == 2) = false := by simp [h2]
      by_cases h3 : k = 3
      · subst h3
        simp [f20, showV]
      · have n3 : (k == 3) = false := by simp [h3]
        simp [f20, showV, n1, n2, n3, h1, h2, h3]
theorem plain_ok (k n : Int) : ACall cx 11 [.agg [.int .i64 k, .int .i64 n]] (.agg [.int .i64 k, .int .i64 n]) none := by
  refine ACall.wpc (C := cx) T.func_11 (by kernel_rfl) rfl (by rfl) ?_
  simp [f11]
def Awake : Prop := ACall cx 7 [] (.bool true) none
set_option maxHeartbeats 4000000 in
theorem shows_ok (hw : Awake) (k n : Int) (s : ByteArray) (hn : Fit64 n) : ACall cx 4 [.agg [.int .i64 k, .int .i64 n], .str s] (.bool true) none := by
  refine ACall.wpc (C := cx) T.func_4 (by kernel_rfl) rfl (by rfl) ?_
  simp [f4]
  refine callP_i hw ?_
  simp
  refine callP_i (hshow_ok k n) ?_
  simp
  refine callP_i (plain_ok k n) ?_
  simp
  refine callP_i (hrefShow_ok k n hn) ?_
  simp
  refine callP_i (first_ok s) ?_
  simp
  refine callP_i (plain_ok _ _) ?_
  simp
  refine callP_i (refFirst_ok s) ?_
  simp
  kernel_rfl
set_option maxHeartbeats 4000000 in
theorem awake_ok : Awake := by
  refine ACall.wpc (C := cx) T.func_7 (by kernel_rfl) rfl (by rfl) ?_
  simp [f7]
  refine callP_j (jcallP_in T.func_8 (by kernel_rfl) rfl (by rfl) (fun _ => ?_))
  simp [f8]
  refine jcallP_tok1 9 ?_
  refine jcallP_i (make_j (l := []) (cl := []) (g := []) (k := 1) ⟨#[65]⟩ (by decide) (by decide) (by decide) (by decide) (by decide) rfl rfl) ?_
  intro r s2 h
  rw [if_pos (by decide)] at h
  obtain ⟨rfl, rest, e1, e2, e3, e4⟩ := h
  rw [S_ret e1 e2 e3 e4]
  simp
  have g1 : getV [⟨#[65]⟩] [] 3 1 ⟨#[65, 46, 102]⟩ ⟨#[105, 110, 116]⟩ = .tup [.agg [.int .i64 1, .int .i64 0], .int .i64 0] := by kernel_rfl
  have g2 : (which [⟨#[65]⟩] 3 1).2 = 0 := by kernel_rfl
  have g3 : getV [⟨#[65]⟩] (setF [⟨#[65]⟩] [] 3 1 ⟨#[65, 46, 102]⟩ (1, 7)) 3 1 ⟨#[65, 46, 102]⟩ ⟨#[105, 110, 116]⟩ = .tup [.agg [.int .i64 1, .int .i64 7], .int .i64 0] := by kernel_rfl
  have g4 : classV [⟨#[65]⟩] 3 1 = .tup [.str ⟨#[65]⟩, .bool true] := by kernel_rfl
  have g5 : showV 1 7 = ⟨#[55]⟩ := by kernel_rfl
  have g6 : firstK ⟨#[98, 111, 111, 108, 101, 97, 110]⟩ = 2 := by kernel_rfl
  refine jcallP_i (get_j (l := []) (cl := [⟨#[65]⟩]) 3 1 ⟨#[65, 46, 102]⟩ ⟨#[105, 110, 116]⟩) ?_
  rintro _ s2 ⟨rfl, rest2, e1, e2, e3, e4⟩
  rw [S_ret e1 e2 e3 e4, g1]
  simp
  refine jcallP_i (set_j (l := []) (cl := [⟨#[65]⟩]) 3 1 ⟨#[65, 46, 102]⟩ 1 7) ?_
  rintro _ s2 ⟨rfl, rest3, e1, e2, e3, e4⟩
  rw [S_ret e1 e2 e3 e4, g2]
  simp
  refine jcallP_i (get_j (cl := [⟨#[65]⟩]) 3 1 ⟨#[65, 46, 102]⟩ ⟨#[105, 110, 116]⟩) ?_
  rintro _ s2 ⟨rfl, rest4, e1, e2, e3, e4⟩
  rw [S_ret e1 e2 e3 e4, g3]
  simp
  refine jcallP_i (class_j (cl := [⟨#[65]⟩]) 3 1 (by decide)) ?_
  rintro _ s2 ⟨rfl, rest5, e1, e2, e3, e4⟩
  rw [S_ret e1 e2 e3 e4, g4]
  simp
  refine jcallP_i (many_j (cl := [⟨#[65]⟩])) ?_
  rintro _ s2 ⟨rfl, rest6, e1, e2, e3, e4⟩
  rw [S_ret e1 e2 e3 e4]
  simp
  refine callP_i (hshow_ok 1 7) ?_
  simp [g5]
  refine callP_i (first_ok _) ?_
  simp [g6]
end Go.Proofs.AL
