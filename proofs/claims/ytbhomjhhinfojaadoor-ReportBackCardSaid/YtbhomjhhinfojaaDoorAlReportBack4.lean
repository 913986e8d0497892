/- What the functions that the law ReportBack reaches compute, and the law (part 4). -/
import Derived.Test.YtbhomjhhinfojaaDoorAlReportBack3
namespace Go.Proofs.AL
open Go Go.RowKit Go.Proofs.Tryd
set_option maxRecDepth 100000
set_option linter.unusedSimpArgs false
set_option linter.unusedVariables false
theorem ACode.seqW {C : Cx} {r : Option Nat} {x y : Code} {s : AS} {Q : Exit → AS → Prop} (h : wpC .on C r x s (fun _ e s' => e = .normal ∧ ACode C r y s' Q)) : ACode C r (.seq x y) s Q :=
  .seq ((wpC_ok h).mono (fun e s' ⟨he, h'⟩ => by subst he; exact h'))
theorem ACode.killW {C : Cx} {r : Option Nat} {c : Code} {Q : Exit → AS → Prop} {N : Nat} {m : List (Nat × AV)} {ob : Obs} {lv : Lvs} {nx : Nat} {lp : Lps} (id : Nat) {cs : List AV} (hs : ob[id]? = some cs) (hn : noMpo cs = true)
    (h : wpC .on C r c (S N (m.map fun q => (q.1, kz id cs q.2)) ((ob.set id []).map (·.map (kz id cs))) lv nx lp) (fun _ => Q)) : ACode C r c (S N m ob lv nx lp) Q := wpC_kill (Q := fun _ => Q) id hs hn h
def ints (l : List Int) : List (List AV) := l.map fun x => [.int .i64 x]
@[simp] theorem ints_length (l : List Int) : (ints l).length = l.length := by simp [ints]
@[simp] theorem ints_all (l : List Int) : (∀ el ∈ ints l, el.length = 1) = True := by simp [ints]
theorem ints_get {l : List Int} {i : Nat} (h : i < (ints l).length) : (ints l)[i] = [.int .i64 (l[i]'(by simpa using h))] := by simp [ints]
attribute [simp] ints_get
theorem ints_pu : ∀ l : List Int, puLL (ints l) = true
  | [] => rfl
  | x :: l => by
    have : ints (x :: l) = [.int .i64 x] :: ints l := rfl
    rw [this]; simp [puLL, puL, pu, ints_pu l]
attribute [simp] ints_pu
/-- How many are of a kind. -/
def cntK (l : List Cf) (j : Int) : Int := ((l.filter fun c => decide (c.1 = j)).length : Int)
theorem cntK_nil (j : Int) : cntK [] j = 0 := rfl
theorem cntK_succ (l : List Cf) (i : Nat) (h : i < l.length) (j : Int) : cntK (l.take (i + 1)) j = if l[i].1 = j then cntK (l.take i) j + 1 else cntK (l.take i) j := by
  unfold cntK
  rw [List.take_succ_eq_append_getElem h, List.filter_append]
  by_cases e : l[i].1 = j
  · rw [if_pos e]; simp [e]
  · rw [if_neg e]; simp [e]
theorem cntK_le (l : List Cf) (i : Nat) (j : Int) : 0 ≤ cntK (l.take i) j ∧ cntK (l.take i) j ≤ l.length := by
  unfold cntK
  have h1 : ((l.take i).filter fun c => decide (c.1 = j)).length ≤ (l.take i).length := List.length_filter_le _ _
  have h2 : (l.take i).length ≤ l.length := by simp; omega
  omega
def countS (l : List Cf) : List Int := [cntK l 1, cntK l 2, cntK l 3, cntK l 4, cntK l 5]
def cntV (l : List Cf) : List AV := [.int .i64 0, .int .i64 (cntK l 1), .int .i64 (cntK l 2), .int .i64 (cntK l 3), .int .i64 (cntK l 4), .int .i64 (cntK l 5)]
@[simp high] theorem idx_cnt1 : idxAddr prog 57 (.ptr 0 0) (.int .i64 1) = some (.ptr 0 1) := by kernel_rfl
@[simp high] theorem idx_cnt2 : idxAddr prog 57 (.ptr 0 0) (.int .i64 2) = some (.ptr 0 2) := by kernel_rfl
@[simp high] theorem idx_cnt3 : idxAddr prog 57 (.ptr 0 0) (.int .i64 3) = some (.ptr 0 3) := by kernel_rfl
@[simp high] theorem idx_cnt4 : idxAddr prog 57 (.ptr 0 0) (.int .i64 4) = some (.ptr 0 4) := by kernel_rfl
@[simp high] theorem idx_cnt5 : idxAddr prog 57 (.ptr 0 0) (.int .i64 5) = some (.ptr 0 5) := by kernel_rfl
def cntB (l : List Cf) : List AV := [.int .i64 (cntK l 1), .int .i64 (cntK l 2), .int .i64 (cntK l 3), .int .i64 (cntK l 4), .int .i64 (cntK l 5)]
set_option maxHeartbeats 8000000 in
theorem count_ok (l : List Cf) (hl : l.length ≤ 1000000) : ACall cx 17 [.sl 0 (cfs l)] (.sl 0 (ints (countS l))) none := by
  refine ACall.wp (C := cx) T.func_17 (by kernel_rfl) rfl (by rfl) ?_
  refine ACode.seqW ?_
  simp [f17]
  refine ACode.seqW ?_
  simp
  refine ACode.seqW ?_
  simp
  refine loopK [3, 6, 7] (fun i _ => i ≤ l.length) (fun i => [(8, .int .i64 (i : Nat))]) (fun i => [cntV (l.take i)]) (fun _ => []) (fun i => l.length - i) 0 (by simp) (by simp) [] (by simp [cntV, cntK_nil]) (by simp) ?_
  rintro i nx g hi - -
  simp
  by_cases h4 : i < l.length
  · have w : IntKind.i64.wrap ((i : Int) + 1) = ((i + 1 : Nat) : Int) := by rw [wrap64_in (by omega) (by omega)]; omega
    have hs := cntK_succ l i h4
    have hle := cntK_le l i
    obtain ⟨⟨x, y⟩, hx⟩ : ∃ x, x = l[i] := ⟨_, rfl⟩
    rw [← hx] at hs
    dsimp only at hs
    by_cases c1 : 0 < x
    · by_cases c2 : x < 6
      · obtain ⟨n, rfl⟩ := Int.eq_ofNat_of_zero_le (show 0 ≤ x by omega)
        have hn : n = 1 ∨ n = 2 ∨ n = 3 ∨ n = 4 ∨ n = 5 := by omega
        have wj : ∀ j, IntKind.i64.wrap (cntK (l.take i) j + 1) = cntK (l.take i) j + 1 := fun j => by have := hle j; rw [wrap64_in (by omega) (by omega)]
        rcases hn with rfl | rfl | rfl | rfl | rfl
        · simp [h4, cfV, ← hx, cntV, wj]
          refine againK_i (i + 1) (g ++ [[.int .i64 1, .str y]]) h4 (by omega) (by simp [w]) ?_ (by simp)
          simp [cntV, hs]
        · simp [h4, cfV, ← hx, cntV, wj]
          refine againK_i (i + 1) (g ++ [[.int .i64 2, .str y]]) h4 (by omega) (by simp [w]) ?_ (by simp)
          simp [cntV, hs]
        · simp [h4, cfV, ← hx, cntV, wj]
          refine againK_i (i + 1) (g ++ [[.int .i64 3, .str y]]) h4 (by omega) (by simp [w]) ?_ (by simp)
          simp [cntV, hs]
        · simp [h4, cfV, ← hx, cntV, wj]
          refine againK_i (i + 1) (g ++ [[.int .i64 4, .str y]]) h4 (by omega) (by simp [w]) ?_ (by simp)
          simp [cntV, hs]
        · simp [h4, cfV, ← hx, cntV, wj]
          refine againK_i (i + 1) (g ++ [[.int .i64 5, .str y]]) h4 (by omega) (by simp [w]) ?_ (by simp)
          simp [cntV, hs]
      · simp [h4, cfV, ← hx, c1, c2]
        refine againK_i (i + 1) (g ++ [[.int .i64 x, .str y]]) h4 (by omega) (by simp [w]) ?_ (by simp)
        have e : ∀ j : Int, 1 ≤ j → j ≤ 5 → cntK (l.take (i + 1)) j = cntK (l.take i) j := fun j h1 h2 => by rw [hs, if_neg (by omega)]
        simp [cntV, e]
    · simp [h4, cfV, ← hx, c1]
      refine againK_i (i + 1) (g ++ [[.int .i64 x, .str y]]) h4 (by omega) (by simp [w]) ?_ (by simp)
      have e : ∀ j : Int, 1 ≤ j → j ≤ 5 → cntK (l.take (i + 1)) j = cntK (l.take i) j := fun j h1 h2 => by rw [hs, if_neg (by omega)]
      simp [cntV, e]
  · have : i = l.length := by omega
    subst this
    rw [List.take_length]
    simp
    refine ACode.killW 0 (cs := cntV l) rfl rfl ?_
    simp
    exact ⟨⟨rfl, by decide⟩, rfl⟩
end Go.Proofs.AL
namespace Go.Proofs.AL
open Go Go.RowKit Go.Proofs.Tryd
set_option maxRecDepth 100000
set_option linter.unusedSimpArgs false
set_option linter.unusedVariables false
set_option maxHeartbeats 4000000 in
theorem isame_ok (a b : List Int) (hal : a.length ≤ 1000000) : ACall cx 16 [.sl 0 (ints a), .sl 0 (ints b)] (.bool (decide (a = b))) none := by
  refine ACall.wpc (C := cx) T.func_16 (by kernel_rfl) rfl (by rfl) ?_
  simp [f16]
  by_cases hl : a.length = b.length
  · have hl' : ((a.length : Int) != (b.length : Int)) = false := by simp [hl]
    simp [hl']
    refine loopK [0, 1] (fun i _ => i ≤ a.length ∧ a.take i = b.take i) (fun i => [(5, .int .i64 (i : Nat))]) (fun _ => []) (fun _ => []) (fun i => a.length - i) 0 ⟨by simp, rfl⟩ (by simp) [] rfl (by simp) ?_
    rintro i nx g ⟨hi, ht⟩ - -
    simp
    by_cases h4 : i < a.length
    · have h5 : i < b.length := by omega
      have w : IntKind.i64.wrap ((i : Int) + 1) = ((i + 1 : Nat) : Int) := by rw [wrap64_in (by omega) (by omega)]; omega
      simp [h4, h5]
      refine ⟨by kernel_rfl, ?_⟩
      by_cases he : a[i] = b[i]
      · have hb : (a[i] != b[i]) = false := by simp [he]
        simp [hb]
        refine againK_i (i + 1) g ⟨h4, ?_⟩ (by omega) (by simp [w]) (by simp) (by simp)
        rw [List.take_succ_eq_append_getElem h4, List.take_succ_eq_append_getElem h5, ht, he]
      · have hne : ¬ a = b := fun e => he (by subst e; rfl)
        have hb : (a[i] != b[i]) = true := by simp [he]
        simp [hb, hne]
    · have : i = a.length := by omega
      subst this
      rw [List.take_length, hl, List.take_length] at ht
      simp [ht]
  · have hl' : ((a.length : Int) != (b.length : Int)) = true := by simp; omega
    have hne : ¬ a = b := fun e => hl (by rw [e])
    simp [hl', hne]
abbrev Awake : Prop := ACall cx 7 [] (.bool true) none
set_option maxHeartbeats 4000000 in
theorem awake_ok : Awake := by
  have e1 : confS 3 ⟨#[65, 46, 109, 40, 41]⟩ = ⟨#[103, 111, 110, 101, 32, 65, 46, 109, 40, 41]⟩ := by decide +kernel
  have r1 : readB ⟨#[103, 111, 110, 101, 32, 65, 46, 109, 40, 41]⟩ = true := by decide +kernel
  have r2 : readK ⟨#[103, 111, 110, 101, 32, 65, 46, 109, 40, 41]⟩ = 3 := by decide +kernel
  have r3 : readT ⟨#[103, 111, 110, 101, 32, 65, 46, 109, 40, 41]⟩ = ⟨#[65, 46, 109, 40, 41]⟩ := by decide +kernel
  have o1 : wordS outsL 4 = ⟨#[116, 111, 111, 32, 108, 97, 114, 103, 101]⟩ := by decide +kernel
  have t1 : textS 2 [(1, ⟨#[65]⟩, ⟨#[66]⟩)] [] [(3, ⟨#[65, 46, 109, 40, 41]⟩)] = ⟨#[99, 111, 110, 102, 108, 105, 99, 116, 115, 10, 108, 101, 102, 116, 58, 32, 114, 101, 110, 97, 109, 101, 32, 65, 32, 116, 111, 32, 66, 10, 99, 111, 110, 102, 108, 105, 99, 116, 58, 32, 103, 111, 110, 101, 32, 65, 46, 109, 40, 41, 10]⟩ := by decide +kernel
  have c1 : countS [(3, ⟨#[65, 46, 109, 40, 41]⟩)] = [0, 0, 1, 0, 0] := by decide +kernel
  refine ACall.wpc (C := cx) T.func_7 (by kernel_rfl) rfl (by rfl) ?_
  simp [f7]
  refine callP_i (read_ok _ (by decide)) ?_
  rw [r1, r2, r3]
  simp
  refine callP_i (text_ok 2 [(1, ⟨#[65]⟩, ⟨#[66]⟩)] [] [(3, ⟨#[65, 46, 109, 40, 41]⟩)] ⟨by decide, by decide⟩ ⟨by decide, by decide⟩ ⟨by decide, by decide⟩) ?_
  rw [t1]
  simp
  refine callP_i (conflict_ok 3 ⟨#[65, 46, 109, 40, 41]⟩ (by decide)) ?_
  rw [e1]
  simp
  refine callP_i (outcome_ok 4) ?_
  rw [o1]
  simp
  refine callP_i (count_ok [(3, ⟨#[65, 46, 109, 40, 41]⟩)] (by decide)) ?_
  rw [c1]
  simp
  refine ⟨rfl, ?_⟩
  refine callP_i (isame_ok [0, 0, 1, 0, 0] [0, 0, 1, 0, 0] (by decide)) ?_
  simp
theorem confEq (a b : Cf) : (decide (a.1 = b.1) && decide (a.2 = b.2)) = decide (a = b) := by
  rw [Bool.eq_iff_iff]; simp [Prod.ext_iff]
set_option maxHeartbeats 4000000 in
theorem reportLines_ok (aw : Awake) (c : Cf) (s : ByteArray) (k : Int) : ACall cx 3 [.agg (cfV c), .str s, .int .i64 k] (.bool true) none := by
  obtain ⟨ck, ct⟩ := c
  refine ACall.wpc (C := cx) T.func_3 (by kernel_rfl) rfl (by rfl) ?_
  simp [f3, cfV]
  refine callP_i aw ?_
  simp
  by_cases h1 : 200 < ct.size
  · have h1' : (200 : Int) < ct.size := by omega
    simp [h1']
  · have h1' : ¬ (200 : Int) < ct.size := by omega
    by_cases h2 : 200 < s.size
    · have h2' : (200 : Int) < s.size := by omega
      simp [h1', h2']
    · have h2' : ¬ (200 : Int) < s.size := by omega
      simp [h1', h2']
      refine callP_i (read_ok s (by omega)) ?_
      simp
      refine callP_i (rread_ok s (by omega)) ?_
      simp
      refine callP_i (conflict_ok ck ct (by omega)) ?_
      simp
      refine callP_i (rconflict_ok ck ct (by omega)) ?_
      simp
      refine callP_i (outcome_ok k) ?_
      simp
      refine callP_i (routcome_ok k) ?_
      simp
      kernel_rfl
end Go.Proofs.AL
namespace Go.Proofs.AL
open Go Go.RowKit Go.Proofs.Tryd
set_option maxRecDepth 100000
set_option linter.unusedSimpArgs false
set_option linter.unusedVariables false
/-- No newline among the first. -/
def nnl (s : ByteArray) : Nat → Bool
  | 0 => true
  | i + 1 => nnl s i && !(byteAt s i == 10)
theorem nnl_iff (s : ByteArray) : ∀ i, i ≤ s.size → (nnl s i = true ↔ NoNlTo s i)
  | 0, _ => ⟨fun _ j h => by omega, fun _ => rfl⟩
  | i + 1, h => by
    have ih := nnl_iff s i (by omega)
    have hb := nl_here (s := s) (i := i) (by omega)
    simp only [nnl, Bool.and_eq_true, ih, Bool.not_eq_true', beq_eq_false_iff_ne, ne_eq, hb]
    constructor
    · rintro ⟨h1, h2⟩ j hj
      rcases Nat.lt_or_ge j i with h3 | h3
      · exact h1 j h3
      · have : j = i := by omega
        subst this; exact h2
    · intro h1
      exact ⟨fun j hj => h1 j (by omega), h1 i (by omega)⟩
theorem read_shown (s : ByteArray) (h : readB s = true) : confS (readK s) (readT s) = s := by
  have hb := h
  simp only [readB, Bool.and_eq_true, Bool.not_eq_true', decide_eq_true_eq, decide_eq_false_iff_not] at hb
  obtain ⟨⟨r1, r2⟩, r3⟩ := hb
  obtain ⟨j, hj⟩ := Int.eq_ofNat_of_zero_le (show 0 ≤ kOf s by omega)
  obtain ⟨_, h5⟩ := idx_kinds (fstS s) j (by omega) hj
  have hh := (hit_iff s r3 j (by omega) h5).1.2 ⟨h, hj⟩
  obtain ⟨_, k2, k3⟩ := read_hit s r3 j (by omega) h5 hh
  rw [k2, k3]
  exact hh
theorem kinds_plain (j : Nat) (h1 : 1 ≤ j) (h2 : j ≤ 5) : (10 : UInt8) ∉ (wordS kindsL j).data.toList := by
  have : j = 1 ∨ j = 2 ∨ j = 3 ∨ j = 4 ∨ j = 5 := by omega
  rcases this with rfl | rfl | rfl | rfl | rfl <;> decide
theorem mem_ix {s : ByteArray} {c : UInt8} (h : 0 ≤ ix s c) : c ∈ s.data.toList := by
  obtain ⟨o, _, _, hat, _⟩ := ix_lt s c h
  exact List.mem_of_getElem? hat
theorem ix_mem {s : ByteArray} {c : UInt8} (h : c ∈ s.data.toList) : 0 ≤ ix s c := by
  obtain ⟨i, hi, e⟩ := List.mem_iff_getElem.1 h
  rcases Int.lt_or_le (ix s c) 0 with h1 | h1
  · have h2 := Lib.indexByte_ge s.data.toList c
    exact absurd (by rw [List.getElem?_eq_getElem hi, e] : s.data.toList[i]? = some c) (Lib.indexByte_none (l := s.data.toList) (c := c) (by show ix s c = -1; have : -1 ≤ ix s c := h2; omega) i)
  · exact h1
theorem glue_mem (w key : ByteArray) (c : UInt8) : c ∈ (w ++ ⟨#[32]⟩ ++ key).data.toList ↔ c ∈ w.data.toList ∨ c = 32 ∨ c ∈ key.data.toList := by
  rw [ByteArray.data_append, ByteArray.data_append]
  simp
theorem plain_iff (key : ByteArray) : NoNlTo key key.size ↔ (10 : UInt8) ∉ key.data.toList := by
  constructor
  · intro h hm
    obtain ⟨i, hi, e⟩ := List.mem_iff_getElem.1 hm
    exact h i (by simpa using hi) (by rw [List.getElem?_eq_getElem hi, e])
  · intro h j hj e
    exact h (List.mem_of_getElem? e)
theorem shown_read (k : Nat) (key : ByteArray) (h1 : 1 ≤ k) (h2 : k ≤ 5) (hp : (10 : UInt8) ∉ key.data.toList) : readB (confS k key) = true ∧ readK (confS k key) = k ∧ readT (confS k key) = key := by
  have hne := kinds_ne k (by omega) (by omega)
  have hpl := kinds_plain k h1 h2
  by_cases hk : key = .empty
  · subst hk
    have hc : confS k .empty = wordS kindsL k := by simp [confS]
    rw [hc]
    have hnl : ¬ 0 ≤ ix (wordS kindsL k) 10 := fun h => hpl (mem_ix h)
    have hko : keyOf k (wordS kindsL k) = .empty := by unfold keyOf; rw [if_neg (by omega)]
    have hh : hit (wordS kindsL k) k := by show confS k (keyOf k (wordS kindsL k)) = _; rw [hko]; exact hc
    obtain ⟨a, b, c⟩ := read_hit _ hnl k h1 h2 hh
    exact ⟨a, b, by rw [c, hko]⟩
  · have hc : confS k key = wordS kindsL k ++ ⟨#[32]⟩ ++ key := by simp [confS, hne, hk]
    rw [hc]
    have hnl : ¬ 0 ≤ ix (wordS kindsL k ++ ⟨#[32]⟩ ++ key) 10 := fun h => by
      rcases (glue_mem _ _ _).1 (mem_ix h) with h | h | h
      · exact hpl h
      · exact absurd h (by decide)
      · exact hp h
    have hpos : 0 < key.size := by
      rcases Nat.eq_zero_or_pos key.size with h | h
      · exact absurd (ByteArray.size_eq_zero_iff.1 h) hk
      · exact h
    have hko : keyOf k (wordS kindsL k ++ ⟨#[32]⟩ ++ key) = key := by
      have := ext_app_r (wordS kindsL k ++ ⟨#[32]⟩) key
      rw [ByteArray.size_append (a := wordS kindsL k), sz32] at this
      unfold keyOf
      rw [if_pos (by rw [ByteArray.size_append, ByteArray.size_append, sz32]; omega)]
      exact this
    have hh : hit (wordS kindsL k ++ ⟨#[32]⟩ ++ key) k := by show confS k (keyOf k _) = _; rw [hko]; exact hc
    obtain ⟨a, b, c⟩ := read_hit _ hnl k h1 h2 hh
    exact ⟨a, b, by rw [c, hko]⟩
theorem read_none : readB .empty = false := by decide +kernel
theorem shown_out (k : Int) (key : ByteArray) (h : k < 1 ∨ 5 < k) : readB (confS k key) = false := by
  have : confS k key = .empty := by simp [confS, kinds_out k h]
  rw [this]; exact read_none
theorem shown_nl (k : Nat) (key : ByteArray) (h1 : 1 ≤ k) (h2 : k ≤ 5) (hp : (10 : UInt8) ∈ key.data.toList) : readB (confS k key) = false := by
  have hne := kinds_ne k (by omega) (by omega)
  have hk : key ≠ .empty := by rintro rfl; simp at hp
  have hc : confS k key = wordS kindsL k ++ ⟨#[32]⟩ ++ key := by simp [confS, hne, hk]
  have : 0 ≤ ix (confS k key) 10 := by rw [hc]; exact ix_mem ((glue_mem _ _ _).2 (.inr (.inr hp)))
  simp [readB, this]
set_option maxHeartbeats 8000000 in
theorem reportBack_ok (aw : Awake) (c : Cf) (s : ByteArray) : ACall cx 5 [.agg (cfV c), .str s] (.bool true) none := by
  obtain ⟨ck, ct⟩ := c
  refine ACall.wpc (C := cx) T.func_5 (by kernel_rfl) rfl (by rfl) ?_
  simp [f5, cfV]
  refine callP_i aw ?_
  simp
  by_cases h1 : 200 < ct.size
  · have h1' : (200 : Int) < ct.size := by omega
    simp [h1']
  · have h1' : ¬ (200 : Int) < ct.size := by omega
    by_cases h2 : 200 < s.size
    · have h2' : (200 : Int) < s.size := by omega
      simp [h1', h2']
    · have h2' : ¬ (200 : Int) < s.size := by omega
      simp [h1', h2']
      refine loopK [1, 2] (fun (i : Nat) _ => i ≤ ct.size) (fun i => [(7, .int .i64 (i : Nat)), (6, .bool (nnl ct i))]) (fun _ => [[.int .i64 ck, .str ct]]) (fun _ => []) (fun i => ct.size - i) 0 (by simp) (by simp [nnl]) [] (by simp) (by simp) ?_
      rintro i nx g hi - -
      simp
      by_cases h4 : i < ct.size
      · have w : IntKind.i64.wrap ((i : Int) + 1) = ((i + 1 : Nat) : Int) := by rw [wrap64_in (by omega) (by omega)]; omega
        cases hn : nnl ct i with
        | false =>
          simp [h4]
          exact againK_i (i + 1) _ h4 (by omega) (by simp [w, nnl, hn]) rfl (by simp)
        | true =>
          simp [h4]
          exact againK_i (i + 1) _ h4 (by omega) (by simp [w, nnl, hn, bne]) rfl (by simp)
      · have : i = ct.size := by omega
        subst this
        simp
        have hcs := confS_size ck ct
        refine callP_i (conflict_ok ck ct (by omega)) ?_
        simp
        refine callP_i (read_ok (confS ck ct) (by omega)) ?_
        simp
        refine callP_i (read_ok s (by omega)) ?_
        simp
        have ht : (readT s).size ≤ 1000000 := by
          unfold readT
          split
          · unfold sndS
            split
            · rw [ByteArray.size_extract]; omega
            · simp
          · simp
        have hpl : nnl ct ct.size = true ↔ (10 : UInt8) ∉ ct.data.toList := (nnl_iff ct ct.size (Nat.le_refl _)).trans (plain_iff ct)
        have e1 : readB s = true ∨ readB s = false := by cases readB s <;> simp
        have tail : ∀ k : Int, k = ck → (k < 1 ∨ 5 < k) ∨ ∃ n : Nat, k = n ∧ 1 ≤ n ∧ n ≤ 5 := fun k _ => by
          by_cases a : k < 1
          · exact .inl (.inl a)
          · by_cases b : 5 < k
            · exact .inl (.inr b)
            · exact .inr ⟨k.toNat, by omega, by omega, by omega⟩
        rcases e1 with hr | hr
        · simp [hr]
          refine callP_i (conflict_ok (readK s) (readT s) (by omega)) ?_
          rw [read_shown s hr]
          simp
          rcases tail ck rfl with (a | a) | ⟨n, rfl, n1, n2⟩
          · simp [a, shown_out ck ct (.inl a)]
          · have a' : ¬ ck < 1 := by omega
            simp [a, a', shown_out ck ct (.inr a)]
          · have a' : ¬ (n : Int) < 1 := by omega
            have a2 : ¬ (5 : Int) < n := by omega
            cases hn : nnl ct ct.size with
            | false =>
              have hm : (10 : UInt8) ∈ ct.data.toList := by
                rcases Classical.em ((10 : UInt8) ∈ ct.data.toList) with h | h
                · exact h
                · rw [hpl.2 h] at hn; cases hn
              simp [a', a2, shown_nl n ct n1 n2 hm]
            | true =>
              obtain ⟨q1, q2, q3⟩ := shown_read n ct n1 n2 (hpl.1 hn)
              simp [a', a2, q1, q2, q3]
        · simp [hr]
          rcases tail ck rfl with (a | a) | ⟨n, rfl, n1, n2⟩
          · simp [a, shown_out ck ct (.inl a)]
          · have a' : ¬ ck < 1 := by omega
            simp [a, a', shown_out ck ct (.inr a)]
          · have a' : ¬ (n : Int) < 1 := by omega
            have a2 : ¬ (5 : Int) < n := by omega
            cases hn : nnl ct ct.size with
            | false =>
              have hm : (10 : UInt8) ∈ ct.data.toList := by
                rcases Classical.em ((10 : UInt8) ∈ ct.data.toList) with h | h
                · exact h
                · rw [hpl.2 h] at hn; cases hn
              simp [a', a2, shown_nl n ct n1 n2 hm]
            | true =>
              obtain ⟨q1, q2, q3⟩ := shown_read n ct n1 n2 (hpl.1 hn)
              simp [a', a2, q1, q2, q3]
end Go.Proofs.AL
namespace Go.Proofs.AL
open Go Go.RowKit Go.Proofs.YtbhomjhhinfojaaDoor
set_option linter.unusedVariables false
set_option linter.unusedSimpArgs false
/-! ## What a law's argument reads as -/
/-- All cells of a block. -/
def mAll (w : World) : Nat → Nat := fun b => match w.heap[b]? with
  | some (.cells c _ _) => c.size
  | _ => 0
theorem mAll_end (w : World) (b : Nat) (h : w.heap.size ≤ b) : mAll w b = 0 := by
  unfold mAll
  rw [Array.getElem?_eq_none h]
theorem mAll_cell {w : World} {b o : Nat} {v : Value} (h : w.cell? ⟨b, o, none⟩ = some v) : o < mAll w b := by
  unfold World.cell? at h
  unfold mAll
  cases hb : w.heap[b]? with
  | none => rw [hb] at h; cases h
  | some ob =>
    rw [hb] at h
    cases ob with
    | cells c T q => exact (Array.getElem?_eq_some_iff.1 h).1
    | _ => cases h
theorem spot_none {w : World} {a : Addr} {v : Value} (h : w.cell? a = some v) : a.spot = none := by
  unfold World.cell? at h
  split at h
  · split at h
    · cases h
    · rename_i hs
      cases hsp : a.spot with
      | none => rfl
      | some _ => rw [hsp] at hs; exact absurd rfl hs
  · cases h
/-- Whatever reads as data of type t is a value with these cells, of a size that the datum tells, and as the reach allows. -/
def ToldAt {α : Type} (P : Program) (t : TypeId) (cells : α → List AV) (sz : α → Nat) (ok : α → Prop) (fuel : Nat) : Prop :=
  ∀ {H : Type} {enc : TypeId × Value → H} {w : World} {held : Bool} {cs : List Value} {z : DataW H × List MemPlace},
    DataW.trod enc P w 0 (fun _ => true) held fuel t cs = some z → (∀ q ∈ DataW.weights P t z.1, q ≤ 140737488351232) → ∃ x, VL (gh1 (mAll w)) w (cells x) cs ∧ ok x ∧ sz x ≤ Rows.uptoBulk z.1
def Told {α : Type} (P : Program) (t : TypeId) (cells : α → List AV) (sz : α → Nat) (ok : α → Prop) : Prop := ∀ fuel, ToldAt P t cells sz ok fuel
theorem mapM_get {α β : Type} {f : α → Option β} : ∀ {l : List α} {xs : List β}, l.mapM f = some xs → xs.length = l.length ∧ ∀ (i : Nat) (a : α), l[i]? = some a → f a = xs[i]? := by
  intro l
  induction l with
  | nil => intro xs h; rw [List.mapM_nil] at h; cases h; exact ⟨rfl, fun i a hi => by simp at hi⟩
  | cons b l ih =>
    intro xs h
    rw [List.mapM_cons] at h
    cases hy : f b with
    | none => rw [hy] at h; cases h
    | some y =>
      rw [hy] at h
      cases hys : l.mapM f with
      | none => rw [hys] at h; cases h
      | some ys =>
        rw [hys] at h
        cases h
        obtain ⟨hl, hg⟩ := ih hys
        refine ⟨by rw [List.length_cons, List.length_cons, hl], fun i a hi => ?_⟩
        cases i with
        | zero => rw [List.getElem?_cons_zero] at hi ⊢; injection hi with hi; subst hi; exact hy
        | succ i => rw [List.getElem?_cons_succ] at hi ⊢; exact hg i a hi
theorem cells_at {w : World} {base : Nat} {a : Addr} {n : Nat} {cs : List Value} (h : w.cells? base a n = some cs) : cs.length = n ∧ ∀ i u, cs[i]? = some u → w.cell? (a.add i) = some u := by
  unfold World.cells? at h
  split at h
  · obtain ⟨hl, hg⟩ := mapM_get h
    rw [List.length_range] at hl
    refine ⟨hl, fun i u hi => ?_⟩
    have hlt : i < n := by
      rcases Nat.lt_or_ge i n with h1 | h1
      · exact h1
      · rw [List.getElem?_eq_none (by omega)] at hi; cases hi
    rw [hg i i (by rw [List.getElem?_range hlt])]; exact hi
  · cases h
theorem bulk_one {H : Type} (d : DataW H) : 1 ≤ Rows.uptoBulk d := by
  cases d with
  | lit l => cases l <;> simp [Rows.uptoBulk]
  | nil => simp [Rows.uptoBulk]
  | ptr d => simp [Rows.uptoBulk]
  | slice elems spare => simp [Rows.uptoBulk]
  | agg parts => simp [Rows.uptoBulk]
  | iface u d => simp [Rows.uptoBulk]
  | map entries => simp [Rows.uptoBulk]
  | held t => simp [Rows.uptoBulk]
theorem told_int {P : Program} {t : TypeId} {k : IntKind} (hu : P.underlying t = some (.int k)) : Told P t (fun x : Int => [.int k x]) (fun _ => 1) (fun x => (Lit.int k x).wf = true) := by
  intro fuel H enc w held cs z h _
  obtain ⟨n, rfl, rfl, hw⟩ := DataW.trod_int hu h
  exact ⟨n, .cons (.int k n) rfl .nil, hw, bulk_one _⟩
theorem told_bool {P : Program} {t : TypeId} (hu : P.underlying t = some .bool) : Told P t (fun x : Bool => [.bool x]) (fun _ => 1) (fun _ => True) := by
  intro fuel H enc w held cs z h _
  obtain ⟨n, rfl, rfl⟩ := DataW.trod_bool hu h
  exact ⟨n, .cons (.bool n) rfl .nil, trivial, bulk_one _⟩
theorem told_string {P : Program} {t : TypeId} (hu : P.underlying t = some .string) : Told P t (fun s : ByteArray => [.str s]) (fun s => s.size + 1) (fun s => s.size ≤ 140737488351232) := by
  intro fuel H enc w held cs z h hq
  obtain ⟨s, rfl, rfl, hs⟩ := DataW.trod_string hu h
  refine ⟨s, .cons (.str s) rfl .nil, ?_, ?_⟩
  · have := hq s.data.toList.length (by simp [DataW.weights])
    simpa using this
  · simp [Rows.uptoBulk]
def sumOf {α : Type} (sz : α → Nat) : List α → Nat
  | [] => 0
  | x :: l => sz x + sumOf sz l
theorem sumOf_le {α : Type} (sz : α → Nat) {l : List α} {x : α} (h : x ∈ l) : sz x ≤ sumOf sz l := by
  induction l with
  | nil => cases h
  | cons y l ih =>
    rw [sumOf]
    cases h with
    | head => exact Nat.le_add_right _ _
    | tail _ h => exact Nat.le_trans (ih h) (Nat.le_add_left _ _)
theorem rows_told {α : Type} {P : Program} {e : TypeId} {cells : α → List AV} {sz : α → Nat} {ok : α → Prop} {n : Nat} (ht : ToldAt P e cells sz ok n) {H : Type} {enc : TypeId × Value → H} {w : World} {held : Bool} (get : Nat → Option (List Value)) :
    ∀ (elems : List (DataW H × List MemPlace)) (k : Nat), (∀ i, i < elems.length → (get (k + i)).bind (DataW.trod enc P w 0 (fun _ => true) held n e) = elems[i]?) → (∀ q ∈ DataW.weightsAll P e (elems.map (·.1)), q ≤ 140737488351232) →
    ∃ l : List α, l.length = elems.length ∧ (∀ i x, l[i]? = some x → ∃ cs, get (k + i) = some cs ∧ VL (gh1 (mAll w)) w (cells x) cs) ∧ (∀ x ∈ l, ok x) ∧ sumOf sz l ≤ Rows.uptoBulkAll (elems.map (·.1)) := by
  intro elems
  induction elems with
  | nil => intro k _ _; exact ⟨[], rfl, (fun i x hi => (by simp at hi)), (fun x hx => (by cases hx)), Nat.zero_le _⟩
  | cons y elems ih =>
    intro k h hq
    rw [List.map_cons, DataW.weightsAll] at hq
    have h0 := h 0 (by simp)
    rw [List.getElem?_cons_zero, Nat.add_zero] at h0
    cases hc : get k with
    | none => rw [hc] at h0; cases h0
    | some cs =>
      rw [hc] at h0
      obtain ⟨x, hx, hox, hsx⟩ := ht h0 (fun q hm => hq q (List.mem_append_left _ hm))
      obtain ⟨l, hl, hg, ho, hs⟩ := ih (k + 1) (fun i hi => by
        have := h (i + 1) (by rw [List.length_cons]; omega)
        rw [List.getElem?_cons_succ] at this
        rw [← this, show k + 1 + i = k + (i + 1) by omega]) (fun q hm => hq q (List.mem_append_right _ hm))
      refine ⟨x :: l, by rw [List.length_cons, List.length_cons, hl], fun i u hi => ?_, fun u hu => ?_, ?_⟩
      · cases i with
        | zero => rw [List.getElem?_cons_zero] at hi; injection hi with hi; subst hi; exact ⟨cs, hc, hx⟩
        | succ i => rw [List.getElem?_cons_succ] at hi; obtain ⟨c, h1, h2⟩ := hg i u hi; exact ⟨c, by rw [show k + (i + 1) = k + 1 + i by omega]; exact h1, h2⟩
      · cases hu with
        | head => exact hox
        | tail _ hu => exact ho u hu
      · rw [sumOf, List.map_cons, Rows.uptoBulkAll]; omega
/-- A slice: c: how many cells an element has; B: how many bytes. -/
theorem told_slice_at {α : Type} {P : Program} {t e : TypeId} {cells : α → List AV} {sz : α → Nat} {ok : α → Prop} (c B : Nat) (hc0 : 0 < c) (hu : P.underlying t = some (.slice e)) (hc : P.cellsOf e = c) (hb : P.bytesOf e = B) (hcl : ∀ x, (cells x).length = c) (fuel : Nat) (he : ∀ n, n < fuel → ToldAt P e cells sz ok n) :
    ToldAt P t (fun l : List α => [.sl 0 (l.map cells)]) (fun l => sumOf sz l + 1) (fun l => l.length * B ≤ 140737488351232 ∧ ∀ x ∈ l, ok x) fuel := by
  intro H enc w held cs z h hq
  rcases DataW.trod_slice hu h with ⟨rfl, rfl⟩ | ⟨a, len, cap, elems, rest, n, rfl, rfl, rfl, _, hlc, hcm, hlen, hel, _, _⟩
  · exact ⟨[], .cons (.sl0 (.inl rfl)) rfl .nil, ⟨by simp, (fun x hx => (by cases hx))⟩, bulk_one _⟩
  · simp only [DataW.weights, hu] at hq
    obtain ⟨l, hl, hg, ho, hs⟩ := rows_told (he n (Nat.lt_succ_self n)) (H := H) (enc := enc) (w := w) (held := held) (fun i => w.cells? 0 (a.add (i * P.cellsOf e)) (P.cellsOf e)) elems 0
      (fun i hi => by rw [Nat.zero_add]; exact hel i (by omega)) (fun q hm => hq q (List.mem_cons_of_mem _ (List.mem_append_left _ hm)))
    have hll : l.length = len := by omega
    refine ⟨l, .cons ?_ rfl .nil, ⟨?_, ho⟩, ?_⟩
    · rcases Nat.eq_zero_or_pos l.length with h0 | h0
      · have hnil : l = [] := List.eq_nil_of_length_eq_zero h0
        subst hnil
        have : len = 0 := by omega
        subst this
        exact .sl0 (.inl rfl)
      · have key : ∀ (j i : Nat) (el : List AV) (x : AV), (l.map cells)[j]? = some el → el[i]? = some x → ∃ u, w.cell? ⟨a.block, a.off + (j * c + i), none⟩ = some u ∧ u.oneCell' = true ∧ V (gh1 (mAll w)) w x u ∧ a.spot = none := by
          intro j i el x hj hi
          rw [List.getElem?_map] at hj
          obtain ⟨p, hp, rfl⟩ := Option.map_eq_some_iff.1 hj
          obtain ⟨cs, h1, h2⟩ := hg j p hp
          rw [Nat.zero_add] at h1
          obtain ⟨g1, g2⟩ := cells_at h1
          have hil : i < cs.length := by have := (List.getElem?_eq_some_iff.1 hi).1; rw [h2.1] at this; exact this
          obtain ⟨v1, v2⟩ := h2.2 i x cs[i] hi (List.getElem?_eq_getElem hil)
          have hcell := g2 i cs[i] (List.getElem?_eq_getElem hil)
          rw [hc, Addr.add_add] at hcell
          have hsp := spot_none hcell
          by_cases h00 : j * c + i = 0
          · have e0 : a.add (j * c + i) = a := by unfold Addr.add; rw [if_pos h00]
            rw [e0] at hcell hsp
            have ea : (⟨a.block, a.off + (j * c + i), none⟩ : Addr) = a := by rw [h00, Nat.add_zero, ← hsp]
            exact ⟨_, by rw [ea]; exact hcell, v2, v1, hsp⟩
          · have e0 : a.add (j * c + i) = ⟨a.block, a.off + (j * c + i), none⟩ := by unfold Addr.add; rw [if_neg h00]
            rw [e0] at hcell
            have h0' : 0 < l.length := h0
            -- the row's own place: of its first cell
            have hp0 : l[0]? = some l[0] := List.getElem?_eq_getElem h0'
            obtain ⟨cs0, k1, k2⟩ := hg 0 _ hp0
            obtain ⟨q1, q2⟩ := cells_at k1
            have hl0 : 0 < cs0.length := by rw [q1, hc]; exact hc0
            have hz := q2 0 _ (List.getElem?_eq_getElem hl0)
            have ez : (a.add ((0 + 0) * P.cellsOf e)).add 0 = a := by unfold Addr.add; simp
            rw [ez] at hz
            exact ⟨_, hcell, v2, v1, spot_none hz⟩
        have hsp : a.spot = none := by
          have hel0 : (l.map cells)[0]? = some (cells l[0]) := by rw [List.getElem?_map, List.getElem?_eq_getElem h0]; rfl
          have hc1 : 0 < (cells l[0]).length := by rw [hcl]; exact hc0
          obtain ⟨_, _, _, _, h4⟩ := key 0 0 _ _ hel0 (List.getElem?_eq_getElem hc1)
          exact h4
        have ea : a = ⟨a.block, a.off, none⟩ := by cases a; simp at hsp; subst hsp; rfl
        rw [ea]
        refine .sl (sz := c) (fun j i => (w.cell? ⟨a.block, a.off + (j * c + i), none⟩).getD undef) (by omega) (by simp; omega) hlc hcm hc0 (fun el hel => ?_) (.inl rfl) (fun j i el x hj hi => ?_) (fun j i el x hj hi => ?_)
        · obtain ⟨p, _, rfl⟩ := List.mem_map.1 hel
          exact hcl p
        · obtain ⟨u, h1, h2, h3, _⟩ := key j i el x hj hi
          exact ⟨mAll_cell h1, by rw [h1]; rfl, by rw [h1]; exact h2⟩
        · obtain ⟨u, h1, h2, h3, _⟩ := key j i el x hj hi
          rw [h1]; exact h3
    · have := hq ((elems.length + rest.length) * P.bytesOf e) (by simp)
      rw [hb] at this
      rw [hl]
      exact Nat.le_trans (Nat.mul_le_mul_right _ (Nat.le_add_right _ _)) this
    · simp only [Rows.uptoBulk]; omega
theorem told_slice {α : Type} {P : Program} {t e : TypeId} {cells : α → List AV} {sz : α → Nat} {ok : α → Prop} (c B : Nat) (hc0 : 0 < c) (hu : P.underlying t = some (.slice e)) (hc : P.cellsOf e = c) (hb : P.bytesOf e = B) (hcl : ∀ x, (cells x).length = c) (he : Told P e cells sz ok) :
    Told P t (fun l : List α => [.sl 0 (l.map cells)]) (fun l => sumOf sz l + 1) (fun l => l.length * B ≤ 140737488351232 ∧ ∀ x ∈ l, ok x) := fun fuel => told_slice_at c B hc0 hu hc hb hcl fuel (fun n _ => he n)
theorem ToldAt.map {α β : Type} {P : Program} {t : TypeId} {cells : α → List AV} {sz : α → Nat} {ok : α → Prop} {fuel : Nat} (h : ToldAt P t cells sz ok fuel) {cells' : β → List AV} {sz' : β → Nat} {ok' : β → Prop} (f : α → β) (h1 : ∀ x, cells' (f x) = cells x) (h2 : ∀ x, sz' (f x) ≤ sz x) (h3 : ∀ x, ok x → ok' (f x)) : ToldAt P t cells' sz' ok' fuel := by
  intro H enc w held cs z h' hq
  obtain ⟨x, a, b, c⟩ := h h' hq
  exact ⟨f x, by rw [h1]; exact a, h3 x b, Nat.le_trans (h2 x) c⟩
/-- A field's part of a struct's cells. -/
theorem told_field {α : Type} {P : Program} {t : TypeId} {cells : α → List AV} {sz : α → Nat} {ok : α → Prop} {n : Nat} (ht : ToldAt P t cells sz ok n) {H : Type} {enc : TypeId × Value → H} {w : World} {held : Bool} {cs : List Value} {off k : Nat} {y : DataW H × List MemPlace} (hk : P.cellsOf t = k)
    (h : DataW.trod enc P w 0 (fun _ => true) held n t ((cs.drop off).take (P.cellsOf t)) = some y) (hq : ∀ q ∈ DataW.weights P t y.1, q ≤ 140737488351232) : ∃ x, VL (gh1 (mAll w)) w (cells x) ((cs.drop off).take k) ∧ ok x ∧ sz x ≤ Rows.uptoBulk y.1 := by
  rw [hk] at h
  exact ht h hq
/-- An argument, by its reading and its weights. -/
theorem told_arg {α : Type} {P : Program} {t : TypeId} {cells : α → List AV} {sz : α → Nat} {ok : α → Prop} (ht : Told P t cells sz ok) {H : Type} {enc : TypeId × Value → H} {w : World} {held : Bool} {ts : List TypeId} {ds : List (DataW H)} {j : Nat} {v : Value} {z : DataW H} {ps : List MemPlace}
    (h : DataW.Trod enc P w 0 (fun _ => true) held t v z ps) (hsz : (DataW.weightsEach P ts ds).all (· ≤ reachBytes) = true) (hj : ts[j]? = some t) (hd : ds[j]? = some z) : ∃ x, VL (gh1 (mAll w)) w (cells x) v.cells.toList ∧ ok x ∧ sz x ≤ Rows.uptoBulk z := by
  obtain ⟨fuel, hf⟩ := h
  obtain ⟨x, h1, h2, h3⟩ := ht fuel hf (fun q hq => by
    have := List.all_eq_true.1 hsz q (DataW.weights_mem_each hj hd q hq)
    exact of_decide_eq_true this)
  exact ⟨x, h1, h2, h3⟩
theorem vl_one {G : Gh} {w : World} {x : AV} {v : Value} (h : VL G w [x] v.cells.toList) (hn : ∀ cs, v ≠ .agg cs) : V G w x v := by
  cases v with
  | agg cs => exact absurd rfl (hn cs)
  | _ => exact (h.2 0 _ _ rfl rfl).1
theorem vl_struct {G : Gh} {w : World} {xs : List AV} {v : Value} (h : VL G w xs v.cells.toList) (hn : xs.length ≠ 1) : V G w (.agg xs) v := by
  cases v with
  | agg cs => exact VL.agg h
  | _ => exact absurd h.1 hn
theorem vl_agg {G : Gh} {w : World} {xs : List AV} {cs : Array Value} (h : VL G w xs (Value.agg cs).cells.toList) : V G w (.agg xs) (.agg cs) := VL.agg h
/-- The law's call: true, and what there was is as it was. -/
theorem law_calls {C : Cx} {f : FuncId} {args : List AV} (h : ACall C f args (.bool true) none) {W : World} {vs : Array Value} (hgi : C.GI (mAll W) W) (hl : vs.size = args.length) (hV : ∀ (i : Nat) (x : AV) (v : Value), args[i]? = some x → vs[i]? = some v → V (gh1 (mAll W)) W x v) :
    Calls C.P f vs W fun e w' => e = .returned (.bool true) ∧ Below W.heap.size W w' :=
  (h.2 (mAll W) W vs hgi (fun b hb => mAll_end W b hb) hl hV).mono (fun e w' ⟨v, m', he, hb, _, _, hv, _⟩ => ⟨by rw [he]; cases hv; rfl, hb⟩)
end Go.Proofs.AL
namespace Go.Proofs.AL
open Go Go.RowKit Go.Proofs.Tryd Go.Proofs.YtbhomjhhinfojaaDoor
set_option maxRecDepth 100000
set_option linter.unusedVariables false
def iok (n : Int) : Prop := (Lit.int .i64 n).wf = true
theorem told_rq : Told prog 33 (fun q : Rq => rqV q) (fun q => 1) (fun q => iok q.1 ∧ q.2.1.size ≤ 140737488351232 ∧ q.2.2.size ≤ 140737488351232) := by
  intro fuel H enc w held cs z h hq
  obtain ⟨xs, n, rfl, rfl, hl, hlen, hf⟩ := DataW.trod_struct Tryd.underlying33 h
  have et : prog.cellsOf 33 = 3 := by kernel_rfl
  rw [et] at hl
  simp only [DataW.weights, Tryd.underlying33] at hq
  match cs, hl with
  | [v0, v1, v2], _ =>
    match xs, hlen with
    | [y0, y1, y2], _ =>
      simp only [List.map_cons, List.map_nil, DataW.weightsEach, List.append_nil] at hq
      obtain ⟨x0, g0, o0, s0⟩ := told_field ((@told_int prog 3 .i64 Tryd.underlying3) n) (k := 1) (off := 0) (by kernel_rfl) (hf 0 _ rfl) (fun q hm => hq q (by simp [hm]))
      obtain ⟨x1, g1, o1, s1⟩ := told_field ((@told_string prog 9 Tryd.underlying9) n) (k := 1) (off := 1) (by kernel_rfl) (hf 1 _ rfl) (fun q hm => hq q (by simp [hm]))
      obtain ⟨x2, g2, o2, s2⟩ := told_field ((@told_string prog 9 Tryd.underlying9) n) (k := 1) (off := 2) (by kernel_rfl) (hf 2 _ rfl) (fun q hm => hq q (by simp [hm]))
      refine ⟨(x0, x1, x2), ?_, ⟨o0, o1, o2⟩, ?_⟩
      · have := ((g0.append g1).append g2)
        simpa [rqV] using this
      · simp only [Rows.uptoBulk, List.map_cons, List.map_nil, Rows.uptoBulkAll]
        first | omega | (simp; omega)
theorem told_cf : Told prog 23 (fun q : Cf => cfV q) (fun q => 1) (fun q => iok q.1 ∧ q.2.size ≤ 140737488351232) := by
  intro fuel H enc w held cs z h hq
  obtain ⟨xs, n, rfl, rfl, hl, hlen, hf⟩ := DataW.trod_struct Tryd.underlying23 h
  have et : prog.cellsOf 23 = 2 := by kernel_rfl
  rw [et] at hl
  simp only [DataW.weights, Tryd.underlying23] at hq
  match cs, hl with
  | [v0, v1], _ =>
    match xs, hlen with
    | [y0, y1], _ =>
      simp only [List.map_cons, List.map_nil, DataW.weightsEach, List.append_nil] at hq
      obtain ⟨x0, g0, o0, s0⟩ := told_field ((@told_int prog 3 .i64 Tryd.underlying3) n) (k := 1) (off := 0) (by kernel_rfl) (hf 0 _ rfl) (fun q hm => hq q (by simp [hm]))
      obtain ⟨x1, g1, o1, s1⟩ := told_field ((@told_string prog 9 Tryd.underlying9) n) (k := 1) (off := 1) (by kernel_rfl) (hf 1 _ rfl) (fun q hm => hq q (by simp [hm]))
      refine ⟨(x0, x1), ?_, ⟨o0, o1⟩, ?_⟩
      · have := (g0.append g1)
        simpa [cfV] using this
      · simp only [Rows.uptoBulk, List.map_cons, List.map_nil, Rows.uptoBulkAll]
        first | omega | (simp; omega)
end Go.Proofs.AL
namespace Go.Proofs.AL
open Go Go.RowKit Go.ChangeShapes Go.WideShapes Go.ChangeAt Go.Proofs.YtbhomjhhinfojaaDoor
/-! ### what the package's variables hold, out of the row's condition -/
def strData {H : Type} (l : List ByteArray) : DataW H := .agg (l.map fun s => .lit (.string s.data.toList))
theorem cells_of_strs {H : Type} {enc : TypeId × Value → H} {P : Program} {w : World} {base : Nat} {sp : Nat → Bool} {held : Bool} {fuel : Nat} {t e : TypeId} {n : Nat} {cs : List Value} {zs : List ByteArray} {p : List MemPlace}
    (ht : P.underlying t = some (.array n e)) (he : P.underlying e = some .string) (hce : P.cellsOf e = 1) (hct : P.cellsOf t = n)
    (h : DataW.trod enc P w base sp held fuel t cs = some (strData zs, p)) : cs = zs.map fun z => Value.string z := by
  cases fuel with
  | zero => simp [DataW.trod] at h
  | succ fuel =>
    simp only [DataW.trod, ht, hce, hct, Nat.mul_one] at h
    split at h
    · rename_i hl
      obtain ⟨xs, hm, hx⟩ := Option.map_eq_some_iff.1 h
      have hxs : xs.map (·.1) = zs.map fun z => (DataW.lit (.string z.data.toList) : DataW H) := by
        have := congrArg Prod.fst hx
        simpa [strData] using this
      have hxl : xs.length = n := by simpa using Lib.mapM_length hm
      have hzl : zs.length = n := by
        have := congrArg List.length hxs
        simp at this
        omega
      apply List.ext_getElem?
      intro i
      by_cases hi : i < n
      · obtain ⟨b, hb, hf⟩ := Lib.mapM_at hm i i (by simp [hi])
        obtain ⟨z, hc, rfl, _⟩ := DataW.trod_string he hf
        have h1 : cs[i]? = some (.string z) := by
          have := congrArg (·[0]?) hc
          simpa [List.getElem?_take, List.getElem?_drop] using this
        have h2 : (xs.map (·.1))[i]? = some (DataW.lit (.string z.data.toList) : DataW H) := by simp [hb]
        rw [hxs] at h2
        simp only [List.getElem?_map, Option.map_eq_some_iff, DataW.lit.injEq, Lit.string.injEq] at h2
        obtain ⟨z', hz', hzz⟩ := h2
        have : z' = z := ba_toList_inj hzz
        subst this
        simp [h1, hz']
      · rw [List.getElem?_eq_none (by omega), List.getElem?_eq_none (by simp; omega)]
    · cases h
theorem glob_of_var {W : World} {nm : String} {g : Nat} {l : List ByteArray} {cs : Array Value} (hg : Tryd.prog.globalNamed nm = some g) (hv : W.var? Tryd.prog nm = some cs) (hc : cs.toList = l.map fun z => Value.string z) (hl : l ≠ []) : GlobAt (mAll W) W g l := by
  unfold World.var? at hv
  rw [hg, Option.bind_some] at hv
  cases hq : W.heap[g]? with
  | none => rw [hq] at hv; cases hv
  | some o =>
    rw [hq] at hv
    cases o with
    | cells cur T fr =>
      have hv : cur = cs := Option.some.inj hv
      subst hv
      have hsz : cur.size = l.length := by have := congrArg List.length hc; simpa using this
      refine ⟨?_, (Array.getElem?_eq_some_iff.1 hq).1, fun i x hx => ?_⟩
      · unfold mAll; rw [hq]; dsimp only; omega
      · rw [cell_of_heap hq, ← Array.getElem?_toList, hc, List.getElem?_map, hx]; rfl
    | _ => cases hv
theorem vars_of_laid {W : World} (h : laidMetH Tryd.prog Rows.reportLinesRow.laid W) : VarsOk (mAll W) W := by
  rw [MakeChecks.laidMetH_plain _ _ _ (by kernel_rfl)] at h
  obtain ⟨ps, ⟨g0, t0, cs0, f0, p0, q0, hg0, ht0, hv0, hd0, ⟨g1, t1, cs1, f1, p1, q1, hg1, ht1, hv1, hd1, ⟨g2, t2, cs2, f2, p2, q2, hg2, ht2, hv2, hd2, _, _⟩, _⟩, _⟩, _, _⟩ := h
  obtain rfl := Option.some.inj ((show Tryd.prog.globalNamed "concordat/request.words" = some 2 by kernel_rfl).symm.trans hg0)
  obtain rfl := Option.some.inj ((show Tryd.prog.globalNamed "concordat/report.kinds" = some 0 by kernel_rfl).symm.trans hg1)
  obtain rfl := Option.some.inj ((show Tryd.prog.globalNamed "concordat/report.outcomes" = some 1 by kernel_rfl).symm.trans hg2)
  obtain rfl := Option.some.inj ((show (Tryd.prog.globals[2]?).map (·.type) = some 69 by kernel_rfl).symm.trans ht0)
  obtain rfl := Option.some.inj ((show (Tryd.prog.globals[0]?).map (·.type) = some 45 by kernel_rfl).symm.trans ht1)
  obtain rfl := Option.some.inj ((show (Tryd.prog.globals[1]?).map (·.type) = some 49 by kernel_rfl).symm.trans ht2)
  have e0 : Rows.laid_concordat_request_words (H := Unit) = strData wordsL := by kernel_rfl
  have e1 : Rows.laid_concordat_report_kinds (H := Unit) = strData kindsL := by kernel_rfl
  have e2 : Rows.laid_concordat_report_outcomes (H := Unit) = strData outsL := by kernel_rfl
  rw [e0] at hd0
  rw [e1] at hd1
  rw [e2] at hd2
  have c0 := cells_of_strs Tryd.underlying69 Tryd.underlying9 (by kernel_rfl) (by kernel_rfl) hd0
  have c1 := cells_of_strs Tryd.underlying45 Tryd.underlying9 (by kernel_rfl) (by kernel_rfl) hd1
  have c2 := cells_of_strs Tryd.underlying49 Tryd.underlying9 (by kernel_rfl) (by kernel_rfl) hd2
  exact ⟨glob_of_var hg1 hv1 (by simpa using c1) (by simp [kindsL]), glob_of_var hg2 hv2 (by simpa using c2) (by simp [outsL]), glob_of_var hg0 hv0 (by simpa using c0) (by simp [wordsL])⟩
set_option maxRecDepth 100000 in
theorem door_met (os : Os) (args : Array Value) : laidMetH Tryd.prog Rows.reportLinesRow.laid ((World.doorLaid Tryd.prog 24 os).forCall (fun _ _ => 0) ⟨#[], args, []⟩).memory :=
  laidMetH_of_parts3 (fuel := 8) (laidMet_of_run' 8 (by kernel_rfl) (by kernel_rfl)) (by kernel_rfl) (by kernel_rfl)
end Go.Proofs.AL
