/- What the functions that the law ReportTexts reaches compute, and the law (part 4). -/
import Derived.Test.YtbhomjhhinfojaaDoorAlReportTexts3
namespace Go.Proofs.AL
open Go Go.RowKit Go.Proofs.Tryd
set_option maxRecDepth 100000
set_option linter.unusedSimpArgs false
set_option linter.unusedVariables false
theorem ACode.seqW {C : Cx} {r : Option Nat} {x y : Code} {s : AS} {Q : Exit → AS → Prop} (h : wpC .on C r x s (fun _ e s' => e = .normal ∧ ACode C r y s' Q)) : ACode C r (.seq x y) s Q :=
  .seq ((wpC_ok h).mono (fun e s' ⟨he, h'⟩ => by subst he; exact h'))
theorem ACode.killW {C : Cx} {r : Option Nat} {c : Code} {Q : Exit → AS → Prop} {N : Nat} {m : List (Nat × AV)} {ob : Obs} {lv : Lvs} {nx : Nat} {lp : Lps} (id : Nat) {cs : List AV} (hs : ob[id]? = some cs) (hn : noMpo cs = true)
    (h : wpC .on C r c (S N (m.map fun q => (q.1, kz id cs q.2)) ((ob.set id []).map (·.map (kz id cs))) lv nx lp) (fun _ => Q)) : ACode C r c (S N m ob lv nx lp) Q := wpC_kill (Q := fun _ => Q) id hs hn h
def ints (l : List Int) : List (List AV) := l.map fun x => [.int .i64 x]
@[simp] theorem ints_length (l : List Int) : (ints l).length = l.length := by simp [ints]
@[simp] theorem ints_all (l : List Int) : (∀ el ∈ ints l, el.length = 1) = True := by simp [ints]
theorem ints_get {l : List Int} {i : Nat} (h : i < (ints l).length) : (ints l)[i] = [.int .i64 (l[i]'(by simpa using h))] := by simp [ints]
attribute [simp] ints_get
theorem ints_pu : ∀ l : List Int, puLL (ints l) = true
  | [] => rfl
  | x :: l => by
    have : ints (x :: l) = [.int .i64 x] :: ints l := rfl
    rw [this]; simp [puLL, puL, pu, ints_pu l]
attribute [simp] ints_pu
/-- How many are of a kind. -/
def cntK (l : List Cf) (j : Int) : Int := ((l.filter fun c => decide (c.1 = j)).length : Int)
theorem cntK_nil (j : Int) : cntK [] j = 0 := rfl
theorem cntK_succ (l : List Cf) (i : Nat) (h : i < l.length) (j : Int) : cntK (l.take (i + 1)) j = if l[i].1 = j then cntK (l.take i) j + 1 else cntK (l.take i) j := by
  unfold cntK
  rw [List.take_succ_eq_append_getElem h, List.filter_append]
  by_cases e : l[i].1 = j
  · rw [if_pos e]; simp [e]
  · rw [if_neg e]; simp [e]
theorem cntK_le (l : List Cf) (i : Nat) (j : Int) : 0 ≤ cntK (l.take i) j ∧ cntK (l.take i) j ≤ l.length := by
  unfold cntK
  have h1 : ((l.take i).filter fun c => decide (c.1 = j)).length ≤ (l.take i).length := List.length_filter_le _ _
  have h2 : (l.take i).length ≤ l.length := by simp; omega
  omega
def countS (l : List Cf) : List Int := [cntK l 1, cntK l 2, cntK l 3, cntK l 4, cntK l 5]
def cntV (l : List Cf) : List AV := [.int .i64 0, .int .i64 (cntK l 1), .int .i64 (cntK l 2), .int .i64 (cntK l 3), .int .i64 (cntK l 4), .int .i64 (cntK l 5)]
@[simp high] theorem idx_cnt1 : idxAddr prog 57 (.ptr 0 0) (.int .i64 1) = some (.ptr 0 1) := by kernel_rfl
@[simp high] theorem idx_cnt2 : idxAddr prog 57 (.ptr 0 0) (.int .i64 2) = some (.ptr 0 2) := by kernel_rfl
@[simp high] theorem idx_cnt3 : idxAddr prog 57 (.ptr 0 0) (.int .i64 3) = some (.ptr 0 3) := by kernel_rfl
@[simp high] theorem idx_cnt4 : idxAddr prog 57 (.ptr 0 0) (.int .i64 4) = some (.ptr 0 4) := by kernel_rfl
@[simp high] theorem idx_cnt5 : idxAddr prog 57 (.ptr 0 0) (.int .i64 5) = some (.ptr 0 5) := by kernel_rfl
def cntB (l : List Cf) : List AV := [.int .i64 (cntK l 1), .int .i64 (cntK l 2), .int .i64 (cntK l 3), .int .i64 (cntK l 4), .int .i64 (cntK l 5)]
set_option maxHeartbeats 8000000 in
theorem count_ok (l : List Cf) (hl : l.length ≤ 1000000) : ACall cx 17 [.sl 0 (cfs l)] (.sl 0 (ints (countS l))) none := by
  refine ACall.wp (C := cx) T.func_17 (by kernel_rfl) rfl (by rfl) ?_
  refine ACode.seqW ?_
  simp [f17]
  refine ACode.seqW ?_
  simp
  refine ACode.seqW ?_
  simp
  refine loopK [3, 6, 7] (fun i _ => i ≤ l.length) (fun i => [(8, .int .i64 (i : Nat))]) (fun i => [cntV (l.take i)]) (fun _ => []) (fun i => l.length - i) 0 (by simp) (by simp) [] (by simp [cntV, cntK_nil]) (by simp) ?_
  rintro i nx g hi - -
  simp
  by_cases h4 : i < l.length
  · have w : IntKind.i64.wrap ((i : Int) + 1) = ((i + 1 : Nat) : Int) := by rw [wrap64_in (by omega) (by omega)]; omega
    have hs := cntK_succ l i h4
    have hle := cntK_le l i
    obtain ⟨⟨x, y⟩, hx⟩ : ∃ x, x = l[i] := ⟨_, rfl⟩
    rw [← hx] at hs
    dsimp only at hs
    by_cases c1 : 0 < x
    · by_cases c2 : x < 6
      · obtain ⟨n, rfl⟩ := Int.eq_ofNat_of_zero_le (show 0 ≤ x by omega)
        have hn : n = 1 ∨ n = 2 ∨ n = 3 ∨ n = 4 ∨ n = 5 := by omega
        have wj : ∀ j, IntKind.i64.wrap (cntK (l.take i) j + 1) = cntK (l.take i) j + 1 := fun j => by have := hle j; rw [wrap64_in (by omega) (by omega)]
        rcases hn with rfl | rfl | rfl | rfl | rfl
        · simp [h4, cfV, ← hx, cntV, wj]
          refine againK_i (i + 1) (g ++ [[.int .i64 1, .str y]]) h4 (by omega) (by simp [w]) ?_ (by simp)
          simp [cntV, hs]
        · simp [h4, cfV, ← hx, cntV, wj]
          refine againK_i (i + 1) (g ++ [[.int .i64 2, .str y]]) h4 (by omega) (by simp [w]) ?_ (by simp)
          simp [cntV, hs]
        · simp [h4, cfV, ← hx, cntV, wj]
          refine againK_i (i + 1) (g ++ [[.int .i64 3, .str y]]) h4 (by omega) (by simp [w]) ?_ (by simp)
          simp [cntV, hs]
        · simp [h4, cfV, ← hx, cntV, wj]
          refine againK_i (i + 1) (g ++ [[.int .i64 4, .str y]]) h4 (by omega) (by simp [w]) ?_ (by simp)
          simp [cntV, hs]
        · simp [h4, cfV, ← hx, cntV, wj]
          refine againK_i (i + 1) (g ++ [[.int .i64 5, .str y]]) h4 (by omega) (by simp [w]) ?_ (by simp)
          simp [cntV, hs]
      · simp [h4, cfV, ← hx, c1, c2]
        refine againK_i (i + 1) (g ++ [[.int .i64 x, .str y]]) h4 (by omega) (by simp [w]) ?_ (by simp)
        have e : ∀ j : Int, 1 ≤ j → j ≤ 5 → cntK (l.take (i + 1)) j = cntK (l.take i) j := fun j h1 h2 => by rw [hs, if_neg (by omega)]
        simp [cntV, e]
    · simp [h4, cfV, ← hx, c1]
      refine againK_i (i + 1) (g ++ [[.int .i64 x, .str y]]) h4 (by omega) (by simp [w]) ?_ (by simp)
      have e : ∀ j : Int, 1 ≤ j → j ≤ 5 → cntK (l.take (i + 1)) j = cntK (l.take i) j := fun j h1 h2 => by rw [hs, if_neg (by omega)]
      simp [cntV, e]
  · have : i = l.length := by omega
    subst this
    rw [List.take_length]
    simp
    refine ACode.killW 0 (cs := cntV l) rfl rfl ?_
    simp
    exact ⟨⟨rfl, by decide⟩, rfl⟩
end Go.Proofs.AL
namespace Go.Proofs.AL
open Go Go.RowKit Go.Proofs.Tryd
set_option maxRecDepth 100000
set_option linter.unusedSimpArgs false
set_option linter.unusedVariables false
set_option maxHeartbeats 4000000 in
theorem isame_ok (a b : List Int) (hal : a.length ≤ 1000000) : ACall cx 16 [.sl 0 (ints a), .sl 0 (ints b)] (.bool (decide (a = b))) none := by
  refine ACall.wpc (C := cx) T.func_16 (by kernel_rfl) rfl (by rfl) ?_
  simp [f16]
  by_cases hl : a.length = b.length
  · have hl' : ((a.length : Int) != (b.length : Int)) = false := by simp [hl]
    simp [hl']
    refine loopK [0, 1] (fun i _ => i ≤ a.length ∧ a.take i = b.take i) (fun i => [(5, .int .i64 (i : Nat))]) (fun _ => []) (fun _ => []) (fun i => a.length - i) 0 ⟨by simp, rfl⟩ (by simp) [] rfl (by simp) ?_
    rintro i nx g ⟨hi, ht⟩ - -
    simp
    by_cases h4 : i < a.length
    · have h5 : i < b.length := by omega
      have w : IntKind.i64.wrap ((i : Int) + 1) = ((i + 1 : Nat) : Int) := by rw [wrap64_in (by omega) (by omega)]; omega
      simp [h4, h5]
      refine ⟨by kernel_rfl, ?_⟩
      by_cases he : a[i] = b[i]
      · have hb : (a[i] != b[i]) = false := by simp [he]
        simp [hb]
        refine againK_i (i + 1) g ⟨h4, ?_⟩ (by omega) (by simp [w]) (by simp) (by simp)
        rw [List.take_succ_eq_append_getElem h4, List.take_succ_eq_append_getElem h5, ht, he]
      · have hne : ¬ a = b := fun e => he (by subst e; rfl)
        have hb : (a[i] != b[i]) = true := by simp [he]
        simp [hb, hne]
    · have : i = a.length := by omega
      subst this
      rw [List.take_length, hl, List.take_length] at ht
      simp [ht]
  · have hl' : ((a.length : Int) != (b.length : Int)) = true := by simp; omega
    have hne : ¬ a = b := fun e => hl (by rw [e])
    simp [hl', hne]
abbrev Awake : Prop := ACall cx 7 [] (.bool true) none
set_option maxHeartbeats 4000000 in
theorem awake_ok : Awake := by
  have e1 : confS 3 ⟨#[65, 46, 109, 40, 41]⟩ = ⟨#[103, 111, 110, 101, 32, 65, 46, 109, 40, 41]⟩ := by decide +kernel
  have r1 : readB ⟨#[103, 111, 110, 101, 32, 65, 46, 109, 40, 41]⟩ = true := by decide +kernel
  have r2 : readK ⟨#[103, 111, 110, 101, 32, 65, 46, 109, 40, 41]⟩ = 3 := by decide +kernel
  have r3 : readT ⟨#[103, 111, 110, 101, 32, 65, 46, 109, 40, 41]⟩ = ⟨#[65, 46, 109, 40, 41]⟩ := by decide +kernel
  have o1 : wordS outsL 4 = ⟨#[116, 111, 111, 32, 108, 97, 114, 103, 101]⟩ := by decide +kernel
  have t1 : textS 2 [(1, ⟨#[65]⟩, ⟨#[66]⟩)] [] [(3, ⟨#[65, 46, 109, 40, 41]⟩)] = ⟨#[99, 111, 110, 102, 108, 105, 99, 116, 115, 10, 108, 101, 102, 116, 58, 32, 114, 101, 110, 97, 109, 101, 32, 65, 32, 116, 111, 32, 66, 10, 99, 111, 110, 102, 108, 105, 99, 116, 58, 32, 103, 111, 110, 101, 32, 65, 46, 109, 40, 41, 10]⟩ := by decide +kernel
  have c1 : countS [(3, ⟨#[65, 46, 109, 40, 41]⟩)] = [0, 0, 1, 0, 0] := by decide +kernel
  refine ACall.wpc (C := cx) T.func_7 (by kernel_rfl) rfl (by rfl) ?_
  simp [f7]
  refine callP_i (read_ok _ (by decide)) ?_
  rw [r1, r2, r3]
  simp
  refine callP_i (text_ok 2 [(1, ⟨#[65]⟩, ⟨#[66]⟩)] [] [(3, ⟨#[65, 46, 109, 40, 41]⟩)] ⟨by decide, by decide⟩ ⟨by decide, by decide⟩ ⟨by decide, by decide⟩) ?_
  rw [t1]
  simp
  refine callP_i (conflict_ok 3 ⟨#[65, 46, 109, 40, 41]⟩ (by decide)) ?_
  rw [e1]
  simp
  refine callP_i (outcome_ok 4) ?_
  rw [o1]
  simp
  refine callP_i (count_ok [(3, ⟨#[65, 46, 109, 40, 41]⟩)] (by decide)) ?_
  rw [c1]
  simp
  refine ⟨rfl, ?_⟩
  refine callP_i (isame_ok [0, 0, 1, 0, 0] [0, 0, 1, 0, 0] (by decide)) ?_
  simp
theorem confEq (a b : Cf) : (decide (a.1 = b.1) && decide (a.2 = b.2)) = decide (a = b) := by
  rw [Bool.eq_iff_iff]; simp [Prod.ext_iff]
set_option maxHeartbeats 4000000 in
theorem reportLines_ok (aw : Awake) (c : Cf) (s : ByteArray) (k : Int) : ACall cx 3 [.agg (cfV c), .str s, .int .i64 k] (.bool true) none := by
  obtain ⟨ck, ct⟩ := c
  refine ACall.wpc (C := cx) T.func_3 (by kernel_rfl) rfl (by rfl) ?_
  simp [f3, cfV]
  refine callP_i aw ?_
  simp
  by_cases h1 : 200 < ct.size
  · have h1' : (200 : Int) < ct.size := by omega
    simp [h1']
  · have h1' : ¬ (200 : Int) < ct.size := by omega
    by_cases h2 : 200 < s.size
    · have h2' : (200 : Int) < s.size := by omega
      simp [h1', h2']
    · have h2' : ¬ (200 : Int) < s.size := by omega
      simp [h1', h2']
      refine callP_i (read_ok s (by omega)) ?_
      simp
      refine callP_i (rread_ok s (by omega)) ?_
      simp
      refine callP_i (conflict_ok ck ct (by omega)) ?_
      simp
      refine callP_i (rconflict_ok ck ct (by omega)) ?_
      simp
      refine callP_i (outcome_ok k) ?_
      simp
      refine callP_i (routcome_ok k) ?_
      simp
      kernel_rfl
end Go.Proofs.AL
