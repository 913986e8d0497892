/- A byte that no edit takes away stands where it is told to, and those that are ahead of one another stay so; for all texts and edits. -/
import Derived.Test.YtijlnfobnlplaaaRows
import Derived.Test.YtijlnfobnlplaaaAlSpanBytes4
import Derived.WalkKit
import Derived.ProofKit
import Derived.OpenShut
import Derived.ShutString
import Derived.ChangeOld
import Derived.Below
import Derived.SizedLaws
namespace Go.Proofs.Ytijlnfobnlplaaa.spanBytes
open Go.ChangeShapes Go.WideShapes Go.ChangeAt Go.RowKit Go.Proofs.AL
open Go.ChangeMaps (open_string shut_string)
set_option linter.unusedVariables false
theorem own : ownKnob Try.prog.godebug = none := by kernel_rfl
theorem laidOut : laidOutB Try.prog = true := by kernel_rfl
set_option maxHeartbeats 2000000 in
set_option maxRecDepth 100000 in
theorem lifted (os : Os) (started : os.Started) (H : Type) (enc : TypeId × Value → H) :
    ReturnsInHanded {} Try.checked os 4 .any (Rows.spanBytesSpec.pre6 enc Try.prog Try.f4 Rows.spanBytesRow.domain false) (Rows.spanBytesSpec.post enc Try.prog Try.f4 false true false false) := by
  refine returnsInHanded_of_change_sized (C := Try.checked) own started (by kernel_rfl) Try.func4
    (ChangeSpec.witness6 (enc := enc) (C := Try.checked) false ⟨#[], #[.string ByteArray.empty, .slice none 0 0], []⟩ 8 (by kernel_rfl) (by kernel_rfl) (by kernel_rfl) (by kernel_rfl)) ?_
  intro W base args ds gs before hval0 hW hcnd hsz0 _
  have hsz : (DataW.weightsEach Try.prog (Try.f4.params.toList ++ Rows.spanBytesSpec.plain.varTypes Try.prog) (ds ++ gs)).all (· ≤ reachBytes) = true := hsz0
  have hval : ∀ (j : Nat) t v, Try.f4.params[j]? = some t → args[j]? = some v → Value.okWide Try.prog W .any base t v := hval0
  have hW' := hW
  obtain ⟨p, q, hA0, hV, rfl, hfz, hnd⟩ := hW
  have hA : DataW.TrodAll enc Try.prog W 0 (fun _ => true) true Try.f4.params.toList args.toList ds p := hA0
  rw [Try.params4] at hA hval hsz
  obtain ⟨v0, vs0, d0, ds0, p0, q0, hargs, rfl, rfl, h0, r0⟩ := trodAll_cons hA
  obtain ⟨v1, vs1, d1, ds1, p1, q1, rfl, rfl, rfl, h1, r1⟩ := trodAll_cons r0
  obtain ⟨rfl, rfl, rfl⟩ := trodAll_nil r1
  obtain rfl : args = #[v0, v1] := by cases args; simp_all
  obtain ⟨rfl, rfl⟩ := trodVars_none hV
  have k0 := h0
  have lt0 : ∀ x ∈ p0, x.block < W.heap.size := by obtain ⟨m, hm⟩ := k0; exact DataW.trod_lt m _ _ _ hm
  obtain ⟨x0, K0, ok0, sz0⟩ := told_arg (told_string Try.underlying9) h0 hsz (j := 0) rfl rfl
  obtain ⟨n0, rfl⟩ := okWide_string Try.underlying9 (hval 0 9 v0 rfl rfl)
  have V0 := vl_one K0 (by rintro cs ⟨⟩)
  have k1 := h1
  have lt1 : ∀ x ∈ p1, x.block < W.heap.size := by obtain ⟨m, hm⟩ := k1; exact DataW.trod_lt m _ _ _ hm
  obtain ⟨x1, K1, ok1, sz1⟩ := told_arg (told_slice (P := Try.prog) (t := 22) (e := 39) (cells := edtV) 3 32 (by decide) Try.underlying22 (by kernel_rfl) (by kernel_rfl) (fun _ => rfl) told_edt) h1 hsz (j := 1) rfl rfl
  obtain ⟨a1, len1, cap1, rfl⟩ := okWide_slice Try.underlying22 (hval 1 22 v1 rfl rfl)
  have V1 := vl_one K1 (by rintro cs ⟨⟩)
  clear hA0 hval0 hsz0 hsz hval
  have hcall : ACall cx 4 [(AV.str x0), (AV.sl 0 (x1.map edtV))] (.bool true) none := (spanBytes_ok awake_ok x0 x1)
  refine (law_calls hcall (W := W) (vs := #[_, _]) trivial rfl ?_).mono fun e W' ⟨he, bel⟩ => ?_
  · intro i x v hx hv
    rcases i with _ | i
    · cases hx; cases hv; exact V0
    rcases i with _ | i
    · cases hx; cases hv; exact V1
    · simp at hx
  subst he
  exact ⟨_, rfl, _, _, _, [], _, [], hW', trodAll_mk1 (shut_bool Try.underlying4 _), (trodAll_cons_mk (Below.trod laidOut (by kernel_rfl) (of_decide_eq_true (by kernel_rfl)) k0 bel lt0) (trodAll_cons_mk (Below.trod laidOut (by kernel_rfl) (of_decide_eq_true (by kernel_rfl)) k1 bel lt1) trodAll_mk0)), rfl, bel.frame _, fun h => by cases h⟩
theorem over : Rows.spanBytesRow.holds Try.pinned (OpenSpec.ofChange Rows.spanBytesSpec) :=
  OpenClaim.holds_of_wide 4 Try.f4 rfl rfl rfl rfl rfl rfl rfl ⟨rfl, rfl, rfl, rfl, rfl⟩ rfl rfl rfl rfl rfl (by kernel_rfl) Try.func4 (by kernel_rfl)
    (of_decide_eq_true (by kernel_rfl)) (by unfold Func.isWrapper; first | (rw [if_pos (by decide +kernel)]; kernel_rfl) | (rw [if_neg (by decide +kernel)]; exact ⟨rfl, rfl⟩))
    (fun os started H enc _ => lifted os started H enc)
theorem proved : Rows.SpanBytesSaid := over
#print axioms proved
end Go.Proofs.Ytijlnfobnlplaaa.spanBytes
namespace Go.Proofs.Ytijlnfobnlplaaa
/-- The row, under a short name, for the claim. -/
theorem spanBytes_holds : Rows.SpanBytesSaid := spanBytes.proved
end Go.Proofs.Ytijlnfobnlplaaa
