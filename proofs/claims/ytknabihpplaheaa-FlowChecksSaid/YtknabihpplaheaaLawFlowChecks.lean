/- The first mistake of any files is the document's; for all texts. -/
import Derived.Test.YtknabihpplaheaaRows
import Derived.Test.YtknabihpplaheaaAlFlowChecks4
import Derived.WalkKit
import Derived.ProofKit
import Derived.OpenShut
import Derived.ShutString
import Derived.ChangeOld
import Derived.Below
import Derived.SizedLaws
namespace Go.Proofs.Ytknabihpplaheaa.flowChecks
open Go.ChangeShapes Go.WideShapes Go.ChangeAt Go.RowKit Go.Proofs.AL
open Go.ChangeMaps (open_string shut_string)
set_option linter.unusedVariables false
theorem own : ownKnob Try.prog.godebug = none := by kernel_rfl
theorem laidOut : laidOutB Try.prog = true := by kernel_rfl
set_option maxHeartbeats 2000000 in
set_option maxRecDepth 100000 in
theorem lifted (os : Os) (started : os.Started) (H : Type) (enc : TypeId × Value → H) :
    ReturnsInHanded {} Try.checked os 4 .any (Rows.flowChecksSpec.pre6 enc Try.prog Try.f4 Rows.flowChecksRow.domain false) (Rows.flowChecksSpec.post enc Try.prog Try.f4 false true false false) := by
  refine returnsInHanded_of_change_sized (C := Try.checked) own started (by kernel_rfl) Try.func4
    (ChangeSpec.witness6 (enc := enc) (C := Try.checked) false ⟨#[], #[.slice none 0 0], []⟩ 8 (by kernel_rfl) (by kernel_rfl) (by kernel_rfl) (by kernel_rfl)) ?_
  intro W base args ds gs before hval0 hW hcnd hsz0 _
  have hsz : (DataW.weightsEach Try.prog (Try.f4.params.toList ++ Rows.flowChecksSpec.plain.varTypes Try.prog) (ds ++ gs)).all (· ≤ reachBytes) = true := hsz0
  have hval : ∀ (j : Nat) t v, Try.f4.params[j]? = some t → args[j]? = some v → Value.okWide Try.prog W .any base t v := hval0
  have hW' := hW
  obtain ⟨p, q, hA0, hV, rfl, hfz, hnd⟩ := hW
  have hA : DataW.TrodAll enc Try.prog W 0 (fun _ => true) true Try.f4.params.toList args.toList ds p := hA0
  rw [Try.params4] at hA hval hsz
  obtain ⟨v0, vs0, d0, ds0, p0, q0, hargs, rfl, rfl, h0, r0⟩ := trodAll_cons hA
  obtain ⟨rfl, rfl, rfl⟩ := trodAll_nil r0
  obtain rfl : args = #[v0] := by cases args; simp_all
  obtain ⟨rfl, rfl⟩ := trodVars_none hV
  have k0 := h0
  have lt0 : ∀ x ∈ p0, x.block < W.heap.size := by obtain ⟨m, hm⟩ := k0; exact DataW.trod_lt m _ _ _ hm
  obtain ⟨x0, K0, ok0, sz0⟩ := told_arg (told_slice (P := Try.prog) (t := 31) (e := 9) (cells := (fun s : ByteArray => [AV.str s])) 1 16 (by decide) Try.underlying31 (by kernel_rfl) (by kernel_rfl) (fun _ => rfl) (told_string Try.underlying9)) h0 hsz (j := 0) rfl rfl
  obtain ⟨a0, len0, cap0, rfl⟩ := okWide_slice Try.underlying31 (hval 0 31 v0 rfl rfl)
  have V0 := vl_one K0 (by rintro cs ⟨⟩)
  clear hA0 hval0 hsz0 hsz hval
  have hcall : ACall cx 4 [(AV.sl 0 (x0.map (fun s : ByteArray => [AV.str s])))] (.bool true) none := (flowChecks_ok awake_ok x0)
  refine (law_calls hcall (W := W) (vs := #[_]) trivial rfl ?_).mono fun e W' ⟨he, bel⟩ => ?_
  · intro i x v hx hv
    rcases i with _ | i
    · cases hx; cases hv; exact V0
    · simp at hx
  subst he
  exact ⟨_, rfl, _, _, _, [], _, [], hW', trodAll_mk1 (shut_bool Try.underlying4 _), (trodAll_cons_mk (Below.trod laidOut (by kernel_rfl) (of_decide_eq_true (by kernel_rfl)) k0 bel lt0) trodAll_mk0), rfl, bel.frame _, fun h => by cases h⟩
theorem over : Rows.flowChecksRow.holds Try.pinned (OpenSpec.ofChange Rows.flowChecksSpec) :=
  OpenClaim.holds_of_wide 4 Try.f4 rfl rfl rfl rfl rfl rfl rfl ⟨rfl, rfl, rfl, rfl, rfl⟩ rfl rfl rfl rfl rfl (by kernel_rfl) Try.func4 (by kernel_rfl)
    (of_decide_eq_true (by kernel_rfl)) (by unfold Func.isWrapper; first | (rw [if_pos (by decide +kernel)]; kernel_rfl) | (rw [if_neg (by decide +kernel)]; exact ⟨rfl, rfl⟩))
    (fun os started H enc _ => lifted os started H enc)
theorem proved : Rows.FlowChecksSaid := over
#print axioms proved
end Go.Proofs.Ytknabihpplaheaa.flowChecks
namespace Go.Proofs.Ytknabihpplaheaa
/-- The row, under a short name, for the claim. -/
theorem flowChecks_holds : Rows.FlowChecksSaid := flowChecks.proved
end Go.Proofs.Ytknabihpplaheaa
