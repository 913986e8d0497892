/- What the functions that the law ReportParts reaches compute, and the law (part 4). -/
import Derived.Test.YtbhomjhhinfojaaDoorAlReportParts3
namespace Go.Proofs.AL
open Go Go.RowKit Go.Proofs.Tryd
set_option maxRecDepth 100000
set_option linter.unusedSimpArgs false
set_option linter.unusedVariables false
theorem ACode.seqW {C : Cx} {r : Option Nat} {x y : Code} {s : AS} {Q : Exit → AS → Prop} (h : wpC .on C r x s (fun _ e s' => e = .normal ∧ ACode C r y s' Q)) : ACode C r (.seq x y) s Q :=
  .seq ((wpC_ok h).mono (fun e s' ⟨he, h'⟩ => by subst he; exact h'))
theorem ACode.killW {C : Cx} {r : Option Nat} {c : Code} {Q : Exit → AS → Prop} {N : Nat} {m : List (Nat × AV)} {ob : Obs} {lv : Lvs} {nx : Nat} {lp : Lps} (id : Nat) {cs : List AV} (hs : ob[id]? = some cs) (hn : noMpo cs = true)
    (h : wpC .on C r c (S N (m.map fun q => (q.1, kz id cs q.2)) ((ob.set id []).map (·.map (kz id cs))) lv nx lp) (fun _ => Q)) : ACode C r c (S N m ob lv nx lp) Q := wpC_kill (Q := fun _ => Q) id hs hn h
def ints (l : List Int) : List (List AV) := l.map fun x => [.int .i64 x]
@[simp] theorem ints_length (l : List Int) : (ints l).length = l.length := by simp [ints]
@[simp] theorem ints_all (l : List Int) : (∀ el ∈ ints l, el.length = 1) = True := by simp [ints]
theorem ints_get {l : List Int} {i : Nat} (h : i < (ints l).length) : (ints l)[i] = [.int .i64 (l[i]'(by simpa using h))] := by simp [ints]
attribute [simp] ints_get
theorem ints_pu : ∀ l : List Int, puLL (ints l) = true
  | [] => rfl
  | x :: l => by
    have : ints (x :: l) = [.int .i64 x] :: ints l := rfl
    rw [this]; simp [puLL, puL, pu, ints_pu l]
attribute [simp] ints_pu
/-- How many are of a kind. -/
def cntK (l : List Cf) (j : Int) : Int := ((l.filter fun c => decide (c.1 = j)).length : Int)
theorem cntK_nil (j : Int) : cntK [] j = 0 := rfl
theorem cntK_succ (l : List Cf) (i : Nat) (h : i < l.length) (j : Int) : cntK (l.take (i + 1)) j = if l[i].1 = j then cntK (l.take i) j + 1 else cntK (l.take i) j := by
  unfold cntK
  rw [List.take_succ_eq_append_getElem h, List.filter_append]
  by_cases e : l[i].1 = j
  · rw [if_pos e]; simp [e]
  · rw [if_neg e]; simp [e]
theorem cntK_le (l : List Cf) (i : Nat) (j : Int) : 0 ≤ cntK (l.take i) j ∧ cntK (l.take i) j ≤ l.length := by
  unfold cntK
  have h1 : ((l.take i).filter fun c => decide (c.1 = j)).length ≤ (l.take i).length := List.length_filter_le _ _
  have h2 : (l.take i).length ≤ l.length := by simp; omega
  omega
def countS (l : List Cf) : List Int := [cntK l 1, cntK l 2, cntK l 3, cntK l 4, cntK l 5]
def cntV (l : List Cf) : List AV := [.int .i64 0, .int .i64 (cntK l 1), .int .i64 (cntK l 2), .int .i64 (cntK l 3), .int .i64 (cntK l 4), .int .i64 (cntK l 5)]
@[simp high] theorem idx_cnt1 : idxAddr prog 57 (.ptr 0 0) (.int .i64 1) = some (.ptr 0 1) := by kernel_rfl
@[simp high] theorem idx_cnt2 : idxAddr prog 57 (.ptr 0 0) (.int .i64 2) = some (.ptr 0 2) := by kernel_rfl
@[simp high] theorem idx_cnt3 : idxAddr prog 57 (.ptr 0 0) (.int .i64 3) = some (.ptr 0 3) := by kernel_rfl
@[simp high] theorem idx_cnt4 : idxAddr prog 57 (.ptr 0 0) (.int .i64 4) = some (.ptr 0 4) := by kernel_rfl
@[simp high] theorem idx_cnt5 : idxAddr prog 57 (.ptr 0 0) (.int .i64 5) = some (.ptr 0 5) := by kernel_rfl
def cntB (l : List Cf) : List AV := [.int .i64 (cntK l 1), .int .i64 (cntK l 2), .int .i64 (cntK l 3), .int .i64 (cntK l 4), .int .i64 (cntK l 5)]
set_option maxHeartbeats 8000000 in
theorem count_ok (l : List Cf) (hl : l.length ≤ 1000000) : ACall cx 17 [.sl 0 (cfs l)] (.sl 0 (ints (countS l))) none := by
  refine ACall.wp (C := cx) T.func_17 (by kernel_rfl) rfl (by rfl) ?_
  refine ACode.seqW ?_
  simp [f17]
  refine ACode.seqW ?_
  simp
  refine ACode.seqW ?_
  simp
  refine loopK [3, 6, 7] (fun i _ => i ≤ l.length) (fun i => [(8, .int .i64 (i : Nat))]) (fun i => [cntV (l.take i)]) (fun _ => []) (fun i => l.length - i) 0 (by simp) (by simp) [] (by simp [cntV, cntK_nil]) (by simp) ?_
  rintro i nx g hi - -
  simp
  by_cases h4 : i < l.length
  · have w : IntKind.i64.wrap ((i : Int) + 1) = ((i + 1 : Nat) : Int) := by rw [wrap64_in (by omega) (by omega)]; omega
    have hs := cntK_succ l i h4
    have hle := cntK_le l i
    obtain ⟨⟨x, y⟩, hx⟩ : ∃ x, x = l[i] := ⟨_, rfl⟩
    rw [← hx] at hs
    dsimp only at hs
    by_cases c1 : 0 < x
    · by_cases c2 : x < 6
      · obtain ⟨n, rfl⟩ := Int.eq_ofNat_of_zero_le (show 0 ≤ x by omega)
        have hn : n = 1 ∨ n = 2 ∨ n = 3 ∨ n = 4 ∨ n = 5 := by omega
        have wj : ∀ j, IntKind.i64.wrap (cntK (l.take i) j + 1) = cntK (l.take i) j + 1 := fun j => by have := hle j; rw [wrap64_in (by omega) (by omega)]
        rcases hn with rfl | rfl | rfl | rfl | rfl
        · simp [h4, cfV, ← hx, cntV, wj]
          refine againK_i (i + 1) (g ++ [[.int .i64 1, .str y]]) h4 (by omega) (by simp [w]) ?_ (by simp)
          simp [cntV, hs]
        · simp [h4, cfV, ← hx, cntV, wj]
          refine againK_i (i + 1) (g ++ [[.int .i64 2, .str y]]) h4 (by omega) (by simp [w]) ?_ (by simp)
          simp [cntV, hs]
        · simp [h4, cfV, ← hx, cntV, wj]
          refine againK_i (i + 1) (g ++ [[.int .i64 3, .str y]]) h4 (by omega) (by simp [w]) ?_ (by simp)
          simp [cntV, hs]
        · simp [h4, cfV, ← hx, cntV, wj]
          refine againK_i (i + 1) (g ++ [[.int .i64 4, .str y]]) h4 (by omega) (by simp [w]) ?_ (by simp)
          simp [cntV, hs]
        · simp [h4, cfV, ← hx, cntV, wj]
          refine againK_i (i + 1) (g ++ [[.int .i64 5, .str y]]) h4 (by omega) (by simp [w]) ?_ (by simp)
          simp [cntV, hs]
      · simp [h4, cfV, ← hx, c1, c2]
        refine againK_i (i + 1) (g ++ [[.int .i64 x, .str y]]) h4 (by omega) (by simp [w]) ?_ (by simp)
        have e : ∀ j : Int, 1 ≤ j → j ≤ 5 → cntK (l.take (i + 1)) j = cntK (l.take i) j := fun j h1 h2 => by rw [hs, if_neg (by omega)]
        simp [cntV, e]
    · simp [h4, cfV, ← hx, c1]
      refine againK_i (i + 1) (g ++ [[.int .i64 x, .str y]]) h4 (by omega) (by simp [w]) ?_ (by simp)
      have e : ∀ j : Int, 1 ≤ j → j ≤ 5 → cntK (l.take (i + 1)) j = cntK (l.take i) j := fun j h1 h2 => by rw [hs, if_neg (by omega)]
      simp [cntV, e]
  · have : i = l.length := by omega
    subst this
    rw [List.take_length]
    simp
    refine ACode.killW 0 (cs := cntV l) rfl rfl ?_
    simp
    exact ⟨⟨rfl, by decide⟩, rfl⟩
end Go.Proofs.AL
namespace Go.Proofs.AL
open Go Go.RowKit Go.Proofs.Tryd
set_option maxRecDepth 100000
set_option linter.unusedSimpArgs false
set_option linter.unusedVariables false
set_option maxHeartbeats 4000000 in
theorem isame_ok (a b : List Int) (hal : a.length ≤ 1000000) : ACall cx 16 [.sl 0 (ints a), .sl 0 (ints b)] (.bool (decide (a = b))) none := by
  refine ACall.wpc (C := cx) T.func_16 (by kernel_rfl) rfl (by rfl) ?_
  simp [f16]
  by_cases hl : a.length = b.length
  · have hl' : ((a.length : Int) != (b.length : Int)) = false := by simp [hl]
    simp [hl']
    refine loopK [0, 1] (fun i _ => i ≤ a.length ∧ a.take i = b.take i) (fun i => [(5, .int .i64 (i : Nat))]) (fun _ => []) (fun _ => []) (fun i => a.length - i) 0 ⟨by simp, rfl⟩ (by simp) [] rfl (by simp) ?_
    rintro i nx g ⟨hi, ht⟩ - -
    simp
    by_cases h4 : i < a.length
    · have h5 : i < b.length := by omega
      have w : IntKind.i64.wrap ((i : Int) + 1) = ((i + 1 : Nat) : Int) := by rw [wrap64_in (by omega) (by omega)]; omega
      simp [h4, h5]
      refine ⟨by kernel_rfl, ?_⟩
      by_cases he : a[i] = b[i]
      · have hb : (a[i] != b[i]) = false := by simp [he]
        simp [hb]
        refine againK_i (i + 1) g ⟨h4, ?_⟩ (by omega) (by simp [w]) (by simp) (by simp)
        rw [List.take_succ_eq_append_getElem h4, List.take_succ_eq_append_getElem h5, ht, he]
      · have hne : ¬ a = b := fun e => he (by subst e; rfl)
        have hb : (a[i] != b[i]) = true := by simp [he]
        simp [hb, hne]
    · have : i = a.length := by omega
      subst this
      rw [List.take_length, hl, List.take_length] at ht
      simp [ht]
  · have hl' : ((a.length : Int) != (b.length : Int)) = true := by simp; omega
    have hne : ¬ a = b := fun e => hl (by rw [e])
    simp [hl', hne]
abbrev Awake : Prop := ACall cx 7 [] (.bool true) none
set_option maxHeartbeats 4000000 in
theorem awake_ok : Awake := by
  have e1 : confS 3 ⟨#[65, 46, 109, 40, 41]⟩ = ⟨#[103, 111, 110, 101, 32, 65, 46, 109, 40, 41]⟩ := by decide +kernel
  have r1 : readB ⟨#[103, 111, 110, 101, 32, 65, 46, 109, 40, 41]⟩ = true := by decide +kernel
  have r2 : readK ⟨#[103, 111, 110, 101, 32, 65, 46, 109, 40, 41]⟩ = 3 := by decide +kernel
  have r3 : readT ⟨#[103, 111, 110, 101, 32, 65, 46, 109, 40, 41]⟩ = ⟨#[65, 46, 109, 40, 41]⟩ := by decide +kernel
  have o1 : wordS outsL 4 = ⟨#[116, 111, 111, 32, 108, 97, 114, 103, 101]⟩ := by decide +kernel
  have t1 : textS 2 [(1, ⟨#[65]⟩, ⟨#[66]⟩)] [] [(3, ⟨#[65, 46, 109, 40, 41]⟩)] = ⟨#[99, 111, 110, 102, 108, 105, 99, 116, 115, 10, 108, 101, 102, 116, 58, 32, 114, 101, 110, 97, 109, 101, 32, 65, 32, 116, 111, 32, 66, 10, 99, 111, 110, 102, 108, 105, 99, 116, 58, 32, 103, 111, 110, 101, 32, 65, 46, 109, 40, 41, 10]⟩ := by decide +kernel
  have c1 : countS [(3, ⟨#[65, 46, 109, 40, 41]⟩)] = [0, 0, 1, 0, 0] := by decide +kernel
  refine ACall.wpc (C := cx) T.func_7 (by kernel_rfl) rfl (by rfl) ?_
  simp [f7]
  refine callP_i (read_ok _ (by decide)) ?_
  rw [r1, r2, r3]
  simp
  refine callP_i (text_ok 2 [(1, ⟨#[65]⟩, ⟨#[66]⟩)] [] [(3, ⟨#[65, 46, 109, 40, 41]⟩)] ⟨by decide, by decide⟩ ⟨by decide, by decide⟩ ⟨by decide, by decide⟩) ?_
  rw [t1]
  simp
  refine callP_i (conflict_ok 3 ⟨#[65, 46, 109, 40, 41]⟩ (by decide)) ?_
  rw [e1]
  simp
  refine callP_i (outcome_ok 4) ?_
  rw [o1]
  simp
  refine callP_i (count_ok [(3, ⟨#[65, 46, 109, 40, 41]⟩)] (by decide)) ?_
  rw [c1]
  simp
  refine ⟨rfl, ?_⟩
  refine callP_i (isame_ok [0, 0, 1, 0, 0] [0, 0, 1, 0, 0] (by decide)) ?_
  simp
theorem confEq (a b : Cf) : (decide (a.1 = b.1) && decide (a.2 = b.2)) = decide (a = b) := by
  rw [Bool.eq_iff_iff]; simp [Prod.ext_iff]
set_option maxHeartbeats 4000000 in
theorem reportLines_ok (aw : Awake) (c : Cf) (s : ByteArray) (k : Int) : ACall cx 3 [.agg (cfV c), .str s, .int .i64 k] (.bool true) none := by
  obtain ⟨ck, ct⟩ := c
  refine ACall.wpc (C := cx) T.func_3 (by kernel_rfl) rfl (by rfl) ?_
  simp [f3, cfV]
  refine callP_i aw ?_
  simp
  by_cases h1 : 200 < ct.size
  · have h1' : (200 : Int) < ct.size := by omega
    simp [h1']
  · have h1' : ¬ (200 : Int) < ct.size := by omega
    by_cases h2 : 200 < s.size
    · have h2' : (200 : Int) < s.size := by omega
      simp [h1', h2']
    · have h2' : ¬ (200 : Int) < s.size := by omega
      simp [h1', h2']
      refine callP_i (read_ok s (by omega)) ?_
      simp
      refine callP_i (rread_ok s (by omega)) ?_
      simp
      refine callP_i (conflict_ok ck ct (by omega)) ?_
      simp
      refine callP_i (rconflict_ok ck ct (by omega)) ?_
      simp
      refine callP_i (outcome_ok k) ?_
      simp
      refine callP_i (routcome_ok k) ?_
      simp
      kernel_rfl
end Go.Proofs.AL
namespace Go.Proofs.AL
open Go Go.RowKit Go.Proofs.Tryd
set_option maxRecDepth 100000
set_option linter.unusedSimpArgs false
set_option linter.unusedVariables false
/-- No newline among the first. -/
def nnl (s : ByteArray) : Nat → Bool
  | 0 => true
  | i + 1 => nnl s i && !(byteAt s i == 10)
theorem nnl_iff (s : ByteArray) : ∀ i, i ≤ s.size → (nnl s i = true ↔ NoNlTo s i)
  | 0, _ => ⟨fun _ j h => by omega, fun _ => rfl⟩
  | i + 1, h => by
    have ih := nnl_iff s i (by omega)
    have hb := nl_here (s := s) (i := i) (by omega)
    simp only [nnl, Bool.and_eq_true, ih, Bool.not_eq_true', beq_eq_false_iff_ne, ne_eq, hb]
    constructor
    · rintro ⟨h1, h2⟩ j hj
      rcases Nat.lt_or_ge j i with h3 | h3
      · exact h1 j h3
      · have : j = i := by omega
        subst this; exact h2
    · intro h1
      exact ⟨fun j hj => h1 j (by omega), h1 i (by omega)⟩
theorem read_shown (s : ByteArray) (h : readB s = true) : confS (readK s) (readT s) = s := by
  have hb := h
  simp only [readB, Bool.and_eq_true, Bool.not_eq_true', decide_eq_true_eq, decide_eq_false_iff_not] at hb
  obtain ⟨⟨r1, r2⟩, r3⟩ := hb
  obtain ⟨j, hj⟩ := Int.eq_ofNat_of_zero_le (show 0 ≤ kOf s by omega)
  obtain ⟨_, h5⟩ := idx_kinds (fstS s) j (by omega) hj
  have hh := (hit_iff s r3 j (by omega) h5).1.2 ⟨h, hj⟩
  obtain ⟨_, k2, k3⟩ := read_hit s r3 j (by omega) h5 hh
  rw [k2, k3]
  exact hh
theorem kinds_plain (j : Nat) (h1 : 1 ≤ j) (h2 : j ≤ 5) : (10 : UInt8) ∉ (wordS kindsL j).data.toList := by
  have : j = 1 ∨ j = 2 ∨ j = 3 ∨ j = 4 ∨ j = 5 := by omega
  rcases this with rfl | rfl | rfl | rfl | rfl <;> decide
theorem mem_ix {s : ByteArray} {c : UInt8} (h : 0 ≤ ix s c) : c ∈ s.data.toList := by
  obtain ⟨o, _, _, hat, _⟩ := ix_lt s c h
  exact List.mem_of_getElem? hat
theorem ix_mem {s : ByteArray} {c : UInt8} (h : c ∈ s.data.toList) : 0 ≤ ix s c := by
  obtain ⟨i, hi, e⟩ := List.mem_iff_getElem.1 h
  rcases Int.lt_or_le (ix s c) 0 with h1 | h1
  · have h2 := Lib.indexByte_ge s.data.toList c
    exact absurd (by rw [List.getElem?_eq_getElem hi, e] : s.data.toList[i]? = some c) (Lib.indexByte_none (l := s.data.toList) (c := c) (by show ix s c = -1; have : -1 ≤ ix s c := h2; omega) i)
  · exact h1
theorem glue_mem (w key : ByteArray) (c : UInt8) : c ∈ (w ++ ⟨#[32]⟩ ++ key).data.toList ↔ c ∈ w.data.toList ∨ c = 32 ∨ c ∈ key.data.toList := by
  rw [ByteArray.data_append, ByteArray.data_append]
  simp
theorem plain_iff (key : ByteArray) : NoNlTo key key.size ↔ (10 : UInt8) ∉ key.data.toList := by
  constructor
  · intro h hm
    obtain ⟨i, hi, e⟩ := List.mem_iff_getElem.1 hm
    exact h i (by simpa using hi) (by rw [List.getElem?_eq_getElem hi, e])
  · intro h j hj e
    exact h (List.mem_of_getElem? e)
theorem shown_read (k : Nat) (key : ByteArray) (h1 : 1 ≤ k) (h2 : k ≤ 5) (hp : (10 : UInt8) ∉ key.data.toList) : readB (confS k key) = true ∧ readK (confS k key) = k ∧ readT (confS k key) = key := by
  have hne := kinds_ne k (by omega) (by omega)
  have hpl := kinds_plain k h1 h2
  by_cases hk : key = .empty
  · subst hk
    have hc : confS k .empty = wordS kindsL k := by simp [confS]
    rw [hc]
    have hnl : ¬ 0 ≤ ix (wordS kindsL k) 10 := fun h => hpl (mem_ix h)
    have hko : keyOf k (wordS kindsL k) = .empty := by unfold keyOf; rw [if_neg (by omega)]
    have hh : hit (wordS kindsL k) k := by show confS k (keyOf k (wordS kindsL k)) = _; rw [hko]; exact hc
    obtain ⟨a, b, c⟩ := read_hit _ hnl k h1 h2 hh
    exact ⟨a, b, by rw [c, hko]⟩
  · have hc : confS k key = wordS kindsL k ++ ⟨#[32]⟩ ++ key := by simp [confS, hne, hk]
    rw [hc]
    have hnl : ¬ 0 ≤ ix (wordS kindsL k ++ ⟨#[32]⟩ ++ key) 10 := fun h => by
      rcases (glue_mem _ _ _).1 (mem_ix h) with h | h | h
      · exact hpl h
      · exact absurd h (by decide)
      · exact hp h
    have hpos : 0 < key.size := by
      rcases Nat.eq_zero_or_pos key.size with h | h
      · exact absurd (ByteArray.size_eq_zero_iff.1 h) hk
      · exact h
    have hko : keyOf k (wordS kindsL k ++ ⟨#[32]⟩ ++ key) = key := by
      have := ext_app_r (wordS kindsL k ++ ⟨#[32]⟩) key
      rw [ByteArray.size_append (a := wordS kindsL k), sz32] at this
      unfold keyOf
      rw [if_pos (by rw [ByteArray.size_append, ByteArray.size_append, sz32]; omega)]
      exact this
    have hh : hit (wordS kindsL k ++ ⟨#[32]⟩ ++ key) k := by show confS k (keyOf k _) = _; rw [hko]; exact hc
    obtain ⟨a, b, c⟩ := read_hit _ hnl k h1 h2 hh
    exact ⟨a, b, by rw [c, hko]⟩
theorem read_none : readB .empty = false := by decide +kernel
theorem shown_out (k : Int) (key : ByteArray) (h : k < 1 ∨ 5 < k) : readB (confS k key) = false := by
  have : confS k key = .empty := by simp [confS, kinds_out k h]
  rw [this]; exact read_none
theorem shown_nl (k : Nat) (key : ByteArray) (h1 : 1 ≤ k) (h2 : k ≤ 5) (hp : (10 : UInt8) ∈ key.data.toList) : readB (confS k key) = false := by
  have hne := kinds_ne k (by omega) (by omega)
  have hk : key ≠ .empty := by rintro rfl; simp at hp
  have hc : confS k key = wordS kindsL k ++ ⟨#[32]⟩ ++ key := by simp [confS, hne, hk]
  have : 0 ≤ ix (confS k key) 10 := by rw [hc]; exact ix_mem ((glue_mem _ _ _).2 (.inr (.inr hp)))
  simp [readB, this]
set_option maxHeartbeats 8000000 in
theorem reportBack_ok (aw : Awake) (c : Cf) (s : ByteArray) : ACall cx 5 [.agg (cfV c), .str s] (.bool true) none := by
  obtain ⟨ck, ct⟩ := c
  refine ACall.wpc (C := cx) T.func_5 (by kernel_rfl) rfl (by rfl) ?_
  simp [f5, cfV]
  refine callP_i aw ?_
  simp
  by_cases h1 : 200 < ct.size
  · have h1' : (200 : Int) < ct.size := by omega
    simp [h1']
  · have h1' : ¬ (200 : Int) < ct.size := by omega
    by_cases h2 : 200 < s.size
    · have h2' : (200 : Int) < s.size := by omega
      simp [h1', h2']
    · have h2' : ¬ (200 : Int) < s.size := by omega
      simp [h1', h2']
      refine loopK [1, 2] (fun (i : Nat) _ => i ≤ ct.size) (fun i => [(7, .int .i64 (i : Nat)), (6, .bool (nnl ct i))]) (fun _ => [[.int .i64 ck, .str ct]]) (fun _ => []) (fun i => ct.size - i) 0 (by simp) (by simp [nnl]) [] (by simp) (by simp) ?_
      rintro i nx g hi - -
      simp
      by_cases h4 : i < ct.size
      · have w : IntKind.i64.wrap ((i : Int) + 1) = ((i + 1 : Nat) : Int) := by rw [wrap64_in (by omega) (by omega)]; omega
        cases hn : nnl ct i with
        | false =>
          simp [h4]
          exact againK_i (i + 1) _ h4 (by omega) (by simp [w, nnl, hn]) rfl (by simp)
        | true =>
          simp [h4]
          exact againK_i (i + 1) _ h4 (by omega) (by simp [w, nnl, hn, bne]) rfl (by simp)
      · have : i = ct.size := by omega
        subst this
        simp
        have hcs := confS_size ck ct
        refine callP_i (conflict_ok ck ct (by omega)) ?_
        simp
        refine callP_i (read_ok (confS ck ct) (by omega)) ?_
        simp
        refine callP_i (read_ok s (by omega)) ?_
        simp
        have ht : (readT s).size ≤ 1000000 := by
          unfold readT
          split
          · unfold sndS
            split
            · rw [ByteArray.size_extract]; omega
            · simp
          · simp
        have hpl : nnl ct ct.size = true ↔ (10 : UInt8) ∉ ct.data.toList := (nnl_iff ct ct.size (Nat.le_refl _)).trans (plain_iff ct)
        have e1 : readB s = true ∨ readB s = false := by cases readB s <;> simp
        have tail : ∀ k : Int, k = ck → (k < 1 ∨ 5 < k) ∨ ∃ n : Nat, k = n ∧ 1 ≤ n ∧ n ≤ 5 := fun k _ => by
          by_cases a : k < 1
          · exact .inl (.inl a)
          · by_cases b : 5 < k
            · exact .inl (.inr b)
            · exact .inr ⟨k.toNat, by omega, by omega, by omega⟩
        rcases e1 with hr | hr
        · simp [hr]
          refine callP_i (conflict_ok (readK s) (readT s) (by omega)) ?_
          rw [read_shown s hr]
          simp
          rcases tail ck rfl with (a | a) | ⟨n, rfl, n1, n2⟩
          · simp [a, shown_out ck ct (.inl a)]
          · have a' : ¬ ck < 1 := by omega
            simp [a, a', shown_out ck ct (.inr a)]
          · have a' : ¬ (n : Int) < 1 := by omega
            have a2 : ¬ (5 : Int) < n := by omega
            cases hn : nnl ct ct.size with
            | false =>
              have hm : (10 : UInt8) ∈ ct.data.toList := by
                rcases Classical.em ((10 : UInt8) ∈ ct.data.toList) with h | h
                · exact h
                · rw [hpl.2 h] at hn; cases hn
              simp [a', a2, shown_nl n ct n1 n2 hm]
            | true =>
              obtain ⟨q1, q2, q3⟩ := shown_read n ct n1 n2 (hpl.1 hn)
              simp [a', a2, q1, q2, q3]
        · simp [hr]
          rcases tail ck rfl with (a | a) | ⟨n, rfl, n1, n2⟩
          · simp [a, shown_out ck ct (.inl a)]
          · have a' : ¬ ck < 1 := by omega
            simp [a, a', shown_out ck ct (.inr a)]
          · have a' : ¬ (n : Int) < 1 := by omega
            have a2 : ¬ (5 : Int) < n := by omega
            cases hn : nnl ct ct.size with
            | false =>
              have hm : (10 : UInt8) ∈ ct.data.toList := by
                rcases Classical.em ((10 : UInt8) ∈ ct.data.toList) with h | h
                · exact h
                · rw [hpl.2 h] at hn; cases hn
              simp [a', a2, shown_nl n ct n1 n2 hm]
            | true =>
              obtain ⟨q1, q2, q3⟩ := shown_read n ct n1 n2 (hpl.1 hn)
              simp [a', a2, q1, q2, q3]
end Go.Proofs.AL
namespace Go.Proofs.AL
open Go Go.RowKit Go.Proofs.Tryd
set_option maxRecDepth 100000
set_option linter.unusedSimpArgs false
set_option linter.unusedVariables false
/-- Where the line begins that a byte is in, and the lines ahead of it. -/
def spG (s : ByteArray) : Nat → Nat × List ByteArray
  | 0 => (0, [])
  | i + 1 => if byteAt s i = 10 then (i + 1, (spG s i).2 ++ [s.extract (spG s i).1 (i + 1)]) else spG s i
def splitS (s : ByteArray) : List ByteArray := (spG s s.size).2 ++ (if (spG s s.size).1 < s.size then [s.extract (spG s s.size).1 s.size] else [])
theorem spG_le (s : ByteArray) : ∀ i, (spG s i).1 ≤ i ∧ (spG s i).2.length ≤ i
  | 0 => by simp [spG]
  | i + 1 => by
    have := spG_le s i
    unfold spG
    split
    · simp; omega
    · omega
structure Sp where
  i : Nat
  k : Nat
def SpOk (s : ByteArray) (p : Sp) (nx : Nat) : Prop := p.i ≤ s.size ∧ p.k ≠ 0 ∧ p.k ≠ 2 ∧ p.k < nx
set_option maxHeartbeats 8000000 in
theorem split_ok (s : ByteArray) (hs : s.size ≤ 1000000000) : ACall cx 19 [.str s] (.sl 0 (strs (splitS s))) none := by
  refine ACall.wpc (C := cx) T.func_19 (by kernel_rfl) rfl (by rfl) ?_
  simp [f19]
  refine loopK [0] (SpOk s) (fun p => [(5, .int .i64 (p.i : Nat)), (4, .int .i64 ((spG s p.i).1 : Nat)), (3, .sl p.k (strs (spG s p.i).2))]) (fun _ => []) (fun p => [(p.k, .ty 9)]) (fun p => s.size - p.i) ⟨0, 1⟩ ⟨by simp, by decide, by decide, by decide⟩ (by simp [spG, strs]) [] rfl (by simp) ?_
  rintro ⟨i, k⟩ nx g ⟨hi, hk, hk2, hkn⟩ hnx -
  dsimp only at hi hk hk2 hkn
  obtain ⟨l1, l2⟩ := spG_le s i
  have nk : ¬ nx = k := by omega
  have n0 : ¬ nx = 0 := by omega
  simp
  by_cases h4 : i < s.size
  · have w : IntKind.i64.wrap ((i : Int) + 1) = ((i + 1 : Nat) : Int) := by rw [wrap64_in (by omega) (by omega)]; omega
    by_cases h5 : byteAt s i = 10
    · have hb : (byteAt s i == 10) = true := by simp [h5]
      have q1 : ((spG s i).1 : Int) ≤ (i : Int) + 1 := by omega
      have q2 : (i : Int) + 1 ≤ s.size := by omega
      have q3 : (spG s i).1 ≤ i + 1 := by omega
      have q4 : i + 1 ≤ s.size := by omega
      have e1 : spG s (i + 1) = (i + 1, (spG s i).2 ++ [s.extract (spG s i).1 (i + 1)]) := by rw [spG, if_pos h5]
      simp [h4, h5, w, q1, q2, q3, q4, hk, hk2, nk, n0]
      refine ⟨by omega, ?_⟩
      exact againK_i ⟨i + 1, nx⟩ _ ⟨h4, n0, by dsimp only; omega, by dsimp only; omega⟩ (by dsimp only; omega) (by simp [w, e1]) rfl (by simp)
    · have hb : (byteAt s i == 10) = false := by simp [h5]
      have e1 : spG s (i + 1) = spG s i := by rw [spG, if_neg h5]
      simp [h4, hb]
      exact againK_i ⟨i + 1, k⟩ _ ⟨h4, hk, hk2, hkn⟩ (by dsimp only; omega) (by simp [w, e1]) rfl (by simp)
  · have : i = s.size := by omega
    subst this
    simp
    by_cases h6 : (spG s s.size).1 < s.size
    · have h6' : ((spG s s.size).1 : Int) ≤ s.size := by omega
      simp [h6, l1, h6', hk, hk2, nk, n0]
      refine ⟨by omega, ?_⟩
      simp [splitS, h6]
    · simp [h6]
      simp [splitS, h6]
/-! ### the text's lines -/
theorem bo_app_l {a b : ByteArray} {i : Nat} (h : i < a.size) : (a ++ b).data[i]? = a.data[i]? := by
  rw [ByteArray.data_append, Array.getElem?_append_left (by simpa using h)]
theorem bo_app_r {a b : ByteArray} {i : Nat} (h : a.size ≤ i) : (a ++ b).data[i]? = b.data[i - a.size]? := by
  rw [ByteArray.data_append, Array.getElem?_append_right (by simpa using h)]
  simp
/-- A line: no newline but at its end. -/
def IsLine (x : ByteArray) : Prop := ∃ b, x = b ++ nlS ∧ (10 : UInt8) ∉ b.data.toList
theorem byte_mid (A L B : ByteArray) (j : Nat) (h : j < L.size) : byteAt (A ++ (L ++ B)) ((A.size + j : Nat) : Int) = 10 ↔ L.data.toList[j]? = some 10 := by
  rw [nl_here (by rw [ByteArray.size_append, ByteArray.size_append]; omega), Array.getElem?_toList, Array.getElem?_toList, bo_app_r (by omega), Nat.add_sub_cancel_left, bo_app_l h]
theorem sp_line (A L B : ByteArray) (hL : IsLine L) (rows : List ByteArray) (h : spG (A ++ (L ++ B)) A.size = (A.size, rows)) : spG (A ++ (L ++ B)) (A.size + L.size) = (A.size + L.size, rows ++ [L]) := by
  obtain ⟨b, rfl, hb⟩ := hL
  have z1 : nlS.size = 1 := rfl
  have hsz : (b ++ nlS).size = b.size + 1 := by rw [ByteArray.size_append, z1]
  have run : ∀ j, j ≤ b.size → spG (A ++ ((b ++ nlS) ++ B)) (A.size + j) = (A.size, rows) := by
    intro j
    induction j with
    | zero => intro _; exact h
    | succ j ih =>
      intro hj
      rw [← Nat.add_assoc, spG, if_neg, ih (by omega)]
      rw [byte_mid A (b ++ nlS) B j (by omega), Array.getElem?_toList, bo_app_l (by omega), ← Array.getElem?_toList]
      intro e
      exact hb (List.mem_of_getElem? e)
  rw [hsz, ← Nat.add_assoc, spG, if_pos, run b.size (Nat.le_refl _)]
  · congr 3
    have e1 : A ++ ((b ++ nlS) ++ B) = (A ++ (b ++ nlS)) ++ B := by simp only [ByteArray.append_assoc]
    have e2 : A.size + b.size + 1 = (A ++ (b ++ nlS)).size := by rw [ByteArray.size_append, hsz]; omega
    have e3 : ((A ++ (b ++ nlS)) ++ B).extract A.size (A ++ (b ++ nlS)).size = (A ++ (b ++ nlS)).extract A.size (A ++ (b ++ nlS)).size := by
      rw [ByteArray.extract_append]
      have : (A ++ (b ++ nlS)).size - (A ++ (b ++ nlS)).size = 0 := by omega
      simp
    dsimp only
    rw [e1, e2, e3, ext_app_r]
  · rw [byte_mid A (b ++ nlS) B b.size (by omega), Array.getElem?_toList, bo_app_r (Nat.le_refl _), Nat.sub_self]
    rfl
theorem cat_app (a b : List ByteArray) : cat (a ++ b) = cat a ++ cat b := by
  unfold cat; rw [List.foldl_append, foldl_app]; rfl
theorem sp_lines (l : List ByteArray) : ∀ (A : ByteArray) (rows : List ByteArray), (∀ x ∈ l, IsLine x) → spG (A ++ cat l) A.size = (A.size, rows) → spG (A ++ cat l) (A ++ cat l).size = ((A ++ cat l).size, rows ++ l) := by
  induction l with
  | nil => intro A rows _ h; have e : A ++ cat [] = A := by simp [cat]
           rw [e] at h ⊢; rw [h]; simp
  | cons x l ih =>
    intro A rows hl h
    rw [cat_cons] at h ⊢
    have h1 := sp_line A x (cat l) (hl x List.mem_cons_self) rows h
    have e : A ++ (x ++ cat l) = (A ++ x) ++ cat l := by simp only [ByteArray.append_assoc]
    rw [e] at h1 ⊢
    have := ih (A ++ x) (rows ++ [x]) (fun y hy => hl y (List.mem_cons_of_mem _ hy)) (by rw [ByteArray.size_append]; exact h1)
    rw [this]
    simp
theorem split_cat (l : List ByteArray) (hl : ∀ x ∈ l, IsLine x) : splitS (cat l) = l := by
  have h := sp_lines l .empty [] hl rfl
  have e : ByteArray.empty ++ cat l = cat l := by simp
  rw [e] at h
  unfold splitS
  rw [h]
  simp
end Go.Proofs.AL
