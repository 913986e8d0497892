/- Whether hunks may be, a row with hunks, the other way and the cost: the program and the document's definition run to the same. -/
import Derived.Test.YtphghffdaceaoaaRows
import Derived.Test.YtphghffdaceaoaaPHunkx17
import Derived.Test.YtphghffdaceaoaaPureHunkPatches
import Derived.Test.YtphghffdaceaoaaOpen
import Derived.WalkKit
import Derived.ProofKit
import Derived.OpenShut
import Derived.ShutString
import Derived.ChangeOld
import Derived.Below
import Derived.SizedLaws
namespace Go.Proofs.Ytphghffdaceaoaa.hunkPatches
open Go.ChangeShapes Go.WideShapes Go.ChangeAt Go.RowKit Go.Proofs.Ytphghffdaceaoaa.PHunk Go.Proofs.YtphghffdaceaoaaW.PrintWords
open Go.ChangeMaps (open_string shut_string)
set_option linter.unusedVariables false
theorem own : ownKnob Try.prog.godebug = none := by kernel_rfl
theorem laidOut : laidOutB Try.prog = true := by kernel_rfl
theorem told40 : O.Told Try.prog 40 k40 (fun _ => 1) (fun x => (Lit.int .i64 x.f0).wf = true ∧ (Lit.int .i64 x.f1).wf = true ∧ (Lit.int .i64 x.f2).wf = true ∧ (Lit.int .i64 x.f3).wf = true) := by
  intro fuel H enc w held cs z h hq
  obtain ⟨xs, n, _, rfl, hl, hlen, hf⟩ := DataW.trod_struct Try.underlying40 h
  have et : Try.prog.cellsOf 40 = 4 := by kernel_rfl
  have e3 : Try.prog.cellsOf 3 = 1 := by kernel_rfl
  rw [et] at hl
  match cs, hl with
  | [v0, v1, v2, v3], _ =>
    match xs, hlen with
    | [y0, y1, y2, y3], _ =>
      have g0 : DataW.trod enc Try.prog w 0 (fun _ => true) held n 3 (([v0, v1, v2, v3].drop 0).take (Try.prog.cellsOf 3)) = some y0 := hf 0 _ rfl
      rw [e3] at g0
      have c0 : DataW.trod enc Try.prog w 0 (fun _ => true) held n 3 [v0] = some y0 := g0
      obtain ⟨n0, h0, _, w0⟩ := DataW.trod_int Try.underlying3 c0
      have g1 : DataW.trod enc Try.prog w 0 (fun _ => true) held n 3 (([v0, v1, v2, v3].drop 1).take (Try.prog.cellsOf 3)) = some y1 := hf 1 _ rfl
      rw [e3] at g1
      have c1 : DataW.trod enc Try.prog w 0 (fun _ => true) held n 3 [v1] = some y1 := g1
      obtain ⟨n1, h1, _, w1⟩ := DataW.trod_int Try.underlying3 c1
      have g2 : DataW.trod enc Try.prog w 0 (fun _ => true) held n 3 (([v0, v1, v2, v3].drop 2).take (Try.prog.cellsOf 3)) = some y2 := hf 2 _ rfl
      rw [e3] at g2
      have c2 : DataW.trod enc Try.prog w 0 (fun _ => true) held n 3 [v2] = some y2 := g2
      obtain ⟨n2, h2, _, w2⟩ := DataW.trod_int Try.underlying3 c2
      have g3 : DataW.trod enc Try.prog w 0 (fun _ => true) held n 3 (([v0, v1, v2, v3].drop 3).take (Try.prog.cellsOf 3)) = some y3 := hf 3 _ rfl
      rw [e3] at g3
      have c3 : DataW.trod enc Try.prog w 0 (fun _ => true) held n 3 [v3] = some y3 := g3
      obtain ⟨n3, h3, _, w3⟩ := DataW.trod_int Try.underlying3 c3
      cases h0; cases h1; cases h2; cases h3
      exact ⟨⟨n0, n1, n2, n3⟩, k40_mk w _, ⟨w0, w1, w2, w3⟩, O.one_le _⟩
set_option maxHeartbeats 2000000 in
set_option maxRecDepth 100000 in
theorem lifted (os : Os) (started : os.Started) (H : Type) (enc : TypeId × Value → H) :
    ReturnsInHanded {} Try.checked os 4 .any (Rows.hunkPatchesSpec.pre6 enc Try.prog Try.f4 Rows.hunkPatchesRow.domain false) (Rows.hunkPatchesSpec.post enc Try.prog Try.f4 false true false false) := by
  refine returnsInHanded_of_change_sized (C := Try.checked) own started (by kernel_rfl) Try.func4
    (ChangeSpec.witness6 (enc := enc) (C := Try.checked) false ⟨#[], #[.slice none 0 0, .slice none 0 0, .slice none 0 0], []⟩ 8 (by kernel_rfl) (by kernel_rfl) (by kernel_rfl) (by kernel_rfl)) ?_
  intro W base args ds gs before hval0 hW hcnd hsz0 _
  have hsz : (DataW.weightsEach Try.prog (Try.f4.params.toList ++ Rows.hunkPatchesSpec.plain.varTypes Try.prog) (ds ++ gs)).all (· ≤ reachBytes) = true := hsz0
  have hval : ∀ (j : Nat) t v, Try.f4.params[j]? = some t → args[j]? = some v → Value.okWide Try.prog W .any base t v := hval0
  have hW' := hW
  obtain ⟨p, q, hA0, hV, rfl, hfz, hnd⟩ := hW
  have hA : DataW.TrodAll enc Try.prog W 0 (fun _ => true) true Try.f4.params.toList args.toList ds p := hA0
  rw [Try.params4] at hA hval hsz
  obtain ⟨v0, vs0, d0, ds0, p0, q0, hargs, rfl, rfl, h0, r0⟩ := trodAll_cons hA
  obtain ⟨v1, vs1, d1, ds1, p1, q1, rfl, rfl, rfl, h1, r1⟩ := trodAll_cons r0
  obtain ⟨v2, vs2, d2, ds2, p2, q2, rfl, rfl, rfl, h2, r2⟩ := trodAll_cons r1
  obtain ⟨rfl, rfl, rfl⟩ := trodAll_nil r2
  obtain rfl : args = #[v0, v1, v2] := by cases args; simp_all
  obtain ⟨rfl, rfl⟩ := trodVars_none hV
  have k0 := h0
  have lt0 : ∀ x ∈ p0, x.block < W.heap.size := by obtain ⟨m, hm⟩ := k0; exact DataW.trod_lt m _ _ _ hm
  obtain ⟨x0, K0, ok0, sz0⟩ := O.arg (O.told_slice 16 Try.underlying25 (by kernel_rfl) (by kernel_rfl) (O.told_string Try.underlying9)) h0 hsz (j := 0) rfl rfl
  obtain ⟨a0, len0, cap0, rfl⟩ := okWide_slice Try.underlying25 (hval 0 25 v0 rfl rfl)
  obtain ⟨rfl, hc0, V0⟩ := O.slice_V (e' := 9) Kd.heap_string K0
  have k1 := h1
  have lt1 : ∀ x ∈ p1, x.block < W.heap.size := by obtain ⟨m, hm⟩ := k1; exact DataW.trod_lt m _ _ _ hm
  obtain ⟨x1, K1, ok1, sz1⟩ := O.arg (O.told_slice 32 Try.underlying27 (by kernel_rfl) (by kernel_rfl) told40) h1 hsz (j := 1) rfl rfl
  obtain ⟨a1, len1, cap1, rfl⟩ := okWide_slice Try.underlying27 (hval 1 27 v1 rfl rfl)
  obtain ⟨rfl, hc1, V1⟩ := O.slice_V (e' := 40) k40_heap K1
  have k2 := h2
  have lt2 : ∀ x ∈ p2, x.block < W.heap.size := by obtain ⟨m, hm⟩ := k2; exact DataW.trod_lt m _ _ _ hm
  obtain ⟨x2, K2, ok2, sz2⟩ := O.arg (O.told_slice 16 Try.underlying25 (by kernel_rfl) (by kernel_rfl) (O.told_string Try.underlying9)) h2 hsz (j := 2) rfl rfl
  obtain ⟨a2, len2, cap2, rfl⟩ := okWide_slice Try.underlying25 (hval 2 25 v2 rfl rfl)
  obtain ⟨rfl, hc2, V2⟩ := O.slice_V (e' := 9) Kd.heap_string K2
  clear hA0 hval0 hsz0 hsz
  obtain ⟨k, hk⟩ := Pure.HunkPatches x0 x1 x2 ok0 ok1 ok2
  refine (PHunk.l06_HunkPatches.calls k a0 cap0 x0 a1 cap1 x1 a2 cap2 x2 true W (Kd.F_now (Kd.V_F V0)) hc0 (Kd.F_now (Kd.V_F V1)) hc1 (Kd.F_now (Kd.V_F V2)) hc2 hk).mono fun e W' ⟨he, bel⟩ => ?_
  subst he
  exact ⟨_, rfl, _, _, _, [], _, [], hW', trodAll_mk1 (shut_bool Try.underlying4 _), (trodAll_cons_mk (Below.trod laidOut (by kernel_rfl) (of_decide_eq_true (by kernel_rfl)) k0 bel lt0) (trodAll_cons_mk (Below.trod laidOut (by kernel_rfl) (of_decide_eq_true (by kernel_rfl)) k1 bel lt1) (trodAll_cons_mk (Below.trod laidOut (by kernel_rfl) (of_decide_eq_true (by kernel_rfl)) k2 bel lt2) trodAll_mk0))), rfl, bel.frame _, fun h => by cases h⟩
theorem over : Rows.hunkPatchesRow.holds Try.pinned (OpenSpec.ofChange Rows.hunkPatchesSpec) :=
  OpenClaim.holds_of_wide 4 Try.f4 rfl rfl rfl rfl rfl rfl rfl ⟨rfl, rfl, rfl, rfl, rfl⟩ rfl rfl rfl rfl rfl (by kernel_rfl) Try.func4 (by kernel_rfl)
    (of_decide_eq_true (by kernel_rfl)) (by unfold Func.isWrapper; first | (rw [if_pos (by decide +kernel)]; kernel_rfl) | (rw [if_neg (by decide +kernel)]; exact ⟨rfl, rfl⟩))
    (fun os started H enc _ => lifted os started H enc)
theorem proved : Rows.HunkPatchesSaid := over
#print axioms proved
end Go.Proofs.Ytphghffdaceaoaa.hunkPatches
namespace Go.Proofs.Ytphghffdaceaoaa
/-- The row, under a short name, for the claim. -/
theorem hunkPatches_holds : Rows.HunkPatchesSaid := hunkPatches.proved
end Go.Proofs.Ytphghffdaceaoaa
