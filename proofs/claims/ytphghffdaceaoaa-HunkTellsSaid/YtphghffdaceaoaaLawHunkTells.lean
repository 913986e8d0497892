/- The hunks that any match leaves, and those between any rows of texts, are the document's. -/
import Derived.Test.YtphghffdaceaoaaRows
import Derived.Test.YtphghffdaceaoaaPHunkx14
import Derived.Test.YtphghffdaceaoaaPureHunkTells
import Derived.Test.YtphghffdaceaoaaOpen
import Derived.WalkKit
import Derived.ProofKit
import Derived.OpenShut
import Derived.ShutString
import Derived.ChangeOld
import Derived.Below
import Derived.SizedLaws
namespace Go.Proofs.Ytphghffdaceaoaa.hunkTells
open Go.ChangeShapes Go.WideShapes Go.ChangeAt Go.RowKit Go.Proofs.Ytphghffdaceaoaa.PHunk Go.Proofs.YtphghffdaceaoaaW.PrintWords
open Go.ChangeMaps (open_string shut_string)
set_option linter.unusedVariables false
theorem own : ownKnob Try.prog.godebug = none := by kernel_rfl
theorem laidOut : laidOutB Try.prog = true := by kernel_rfl
set_option maxHeartbeats 2000000 in
set_option maxRecDepth 100000 in
theorem lifted (os : Os) (started : os.Started) (H : Type) (enc : TypeId × Value → H) :
    ReturnsInHanded {} Try.checked os 3 .any (Rows.hunkTellsSpec.pre6 enc Try.prog Try.f3 Rows.hunkTellsRow.domain false) (Rows.hunkTellsSpec.post enc Try.prog Try.f3 false true false false) := by
  refine returnsInHanded_of_change_sized (C := Try.checked) own started (by kernel_rfl) Try.func3
    (ChangeSpec.witness6 (enc := enc) (C := Try.checked) false ⟨#[], #[.slice none 0 0, .int .i64 0, .slice none 0 0], []⟩ 8 (by kernel_rfl) (by kernel_rfl) (by kernel_rfl) (by kernel_rfl)) ?_
  intro W base args ds gs before hval0 hW hcnd hsz0 _
  have hsz : (DataW.weightsEach Try.prog (Try.f3.params.toList ++ Rows.hunkTellsSpec.plain.varTypes Try.prog) (ds ++ gs)).all (· ≤ reachBytes) = true := hsz0
  have hval : ∀ (j : Nat) t v, Try.f3.params[j]? = some t → args[j]? = some v → Value.okWide Try.prog W .any base t v := hval0
  have hW' := hW
  obtain ⟨p, q, hA0, hV, rfl, hfz, hnd⟩ := hW
  have hA : DataW.TrodAll enc Try.prog W 0 (fun _ => true) true Try.f3.params.toList args.toList ds p := hA0
  rw [Try.params3] at hA hval hsz
  obtain ⟨v0, vs0, d0, ds0, p0, q0, hargs, rfl, rfl, h0, r0⟩ := trodAll_cons hA
  obtain ⟨v1, vs1, d1, ds1, p1, q1, rfl, rfl, rfl, h1, r1⟩ := trodAll_cons r0
  obtain ⟨v2, vs2, d2, ds2, p2, q2, rfl, rfl, rfl, h2, r2⟩ := trodAll_cons r1
  obtain ⟨rfl, rfl, rfl⟩ := trodAll_nil r2
  obtain rfl : args = #[v0, v1, v2] := by cases args; simp_all
  obtain ⟨rfl, rfl⟩ := trodVars_none hV
  have k0 := h0
  have lt0 : ∀ x ∈ p0, x.block < W.heap.size := by obtain ⟨m, hm⟩ := k0; exact DataW.trod_lt m _ _ _ hm
  obtain ⟨x0, K0, ok0, sz0⟩ := O.arg (O.told_slice 8 Try.underlying22 (by kernel_rfl) (by kernel_rfl) (O.told_int (k := .i64) Try.underlying3)) h0 hsz (j := 0) rfl rfl
  obtain ⟨a0, len0, cap0, rfl⟩ := okWide_slice Try.underlying22 (hval 0 22 v0 rfl rfl)
  obtain ⟨rfl, hc0, V0⟩ := O.slice_V (e' := 3) (Kd.heap_int .i64) K0
  have k1 := h1
  have lt1 : ∀ x ∈ p1, x.block < W.heap.size := by obtain ⟨m, hm⟩ := k1; exact DataW.trod_lt m _ _ _ hm
  obtain ⟨x1, K1, ok1, sz1⟩ := O.arg (O.told_int (k := .i64) Try.underlying3) h1 hsz (j := 1) rfl rfl
  obtain ⟨n1, rfl⟩ := okWide_int Try.underlying3 (hval 1 3 v1 rfl rfl)
  obtain rfl : x1 = n1 := (O.int_of K1).symm
  have k2 := h2
  have lt2 : ∀ x ∈ p2, x.block < W.heap.size := by obtain ⟨m, hm⟩ := k2; exact DataW.trod_lt m _ _ _ hm
  obtain ⟨x2, K2, ok2, sz2⟩ := O.arg (O.told_slice 24 Try.underlying23 (by kernel_rfl) (by kernel_rfl) (O.told_slice 16 Try.underlying25 (by kernel_rfl) (by kernel_rfl) (O.told_string Try.underlying9))) h2 hsz (j := 2) rfl rfl
  obtain ⟨a2, len2, cap2, rfl⟩ := okWide_slice Try.underlying23 (hval 2 23 v2 rfl rfl)
  obtain ⟨rfl, hc2, V2⟩ := O.slice_V (e' := 25) (Kd.heap_slice 9 Kd.heap_string) K2
  clear hA0 hval0 hsz0 hsz
  obtain ⟨k, hk⟩ := Pure.HunkTells x0 x1 x2 ok0 ok1 ok2
  refine (PHunk.l06_HunkTells.calls k a0 cap0 x0 x1 a2 cap2 x2 true W (Kd.F_now (Kd.V_F V0)) hc0 (Kd.F_now (Kd.V_F V2)) hc2 hk).mono fun e W' ⟨he, bel⟩ => ?_
  subst he
  exact ⟨_, rfl, _, _, _, [], _, [], hW', trodAll_mk1 (shut_bool Try.underlying4 _), (trodAll_cons_mk (Below.trod laidOut (by kernel_rfl) (of_decide_eq_true (by kernel_rfl)) k0 bel lt0) (trodAll_cons_mk (Below.trod laidOut (by kernel_rfl) (of_decide_eq_true (by kernel_rfl)) k1 bel lt1) (trodAll_cons_mk (Below.trod laidOut (by kernel_rfl) (of_decide_eq_true (by kernel_rfl)) k2 bel lt2) trodAll_mk0))), rfl, bel.frame _, fun h => by cases h⟩
theorem over : Rows.hunkTellsRow.holds Try.pinned (OpenSpec.ofChange Rows.hunkTellsSpec) :=
  OpenClaim.holds_of_wide 3 Try.f3 rfl rfl rfl rfl rfl rfl rfl ⟨rfl, rfl, rfl, rfl, rfl⟩ rfl rfl rfl rfl rfl (by kernel_rfl) Try.func3 (by kernel_rfl)
    (of_decide_eq_true (by kernel_rfl)) (by unfold Func.isWrapper; first | (rw [if_pos (by decide +kernel)]; kernel_rfl) | (rw [if_neg (by decide +kernel)]; exact ⟨rfl, rfl⟩))
    (fun os started H enc _ => lifted os started H enc)
theorem proved : Rows.HunkTellsSaid := over
#print axioms proved
end Go.Proofs.Ytphghffdaceaoaa.hunkTells
namespace Go.Proofs.Ytphghffdaceaoaa
/-- The row, under a short name, for the claim. -/
theorem hunkTells_holds : Rows.HunkTellsSaid := hunkTells.proved
end Go.Proofs.Ytphghffdaceaoaa
