/- Any conflict's line, any line's conflict, and any outcome's word, are the document's; for all conflicts, texts and numbers. -/
import Derived.Test.YtbhomjhhinfojaaDoorRows
import Derived.Test.YtbhomjhhinfojaaDoorAlReportLines4
import Derived.Test.YtbhomjhhinfojaaDoorTie
import Derived.Test.YtbhomjhhinfojaaDoorCards
import Derived.WalkKit
import Derived.ProofKit
import Derived.OpenShut
import Derived.ShutString
import Derived.ChangeOld
import Derived.Below
import Derived.SizedLaws
import Derived.LaidMore
import Derived.Stop.Joined
import Derived.SevenTiedAt
namespace Go.Proofs.YtbhomjhhinfojaaDoor.reportLines
open Go.ChangeShapes Go.WideShapes Go.ChangeAt Go.RowKit Go.Proofs.AL
open Go.ChangeMaps (open_string shut_string)
set_option linter.unusedVariables false
theorem own : ownKnob Tryd.prog.godebug = none := by kernel_rfl
theorem laidOut : laidOutB Tryd.prog = true := by kernel_rfl
set_option maxHeartbeats 2000000 in
set_option maxRecDepth 100000 in
theorem lifted (os : Os) (started : os.Started) (H : Type) (enc : TypeId × Value → H) :
    ReturnsInHanded {} Tryd.checked os 3 .any (fun w args => (Rows.reportLinesSpec.pre enc Tryd.prog Tryd.f3 [] false w args ∧ laidMetH Tryd.prog Rows.reportLinesRow.laid w) ∧ sizedMet enc Tryd.prog Tryd.f3 (OpenSpec.ofChange Rows.reportLinesSpec) false w args) (Rows.reportLinesSpec.post enc Tryd.prog Tryd.f3 false true false false) := by
  refine returnsInHanded_of_change_and (C := Tryd.checked) (X := fun w _ => laidMetH Tryd.prog Rows.reportLinesRow.laid w) (fun _ _ _ hh h => h.of_heap hh) own started (by kernel_rfl) Tryd.func3
    (ChangeSpec.witness_shaped (enc := enc) (C := Tryd.checked) (os := os) (X := fun w _ => laidMetH Tryd.prog Rows.reportLinesRow.laid w) false (World.doorLaid Tryd.prog 24 os) #[.agg #[.int .i64 0, .string ByteArray.empty], .string ByteArray.empty, .int .i64 0] 8 rfl (World.shaped_of_RefB (by kernel_rfl) (by kernel_rfl)) (by kernel_rfl) (by kernel_rfl) (by kernel_rfl) (door_met os _)) ?_
  intro W base args ds gs before hval0 hW hcnd hsz0 hL _
  have hsz : (DataW.weightsEach Tryd.prog (Tryd.f3.params.toList ++ Rows.reportLinesSpec.plain.varTypes Tryd.prog) (ds ++ gs)).all (· ≤ reachBytes) = true := hsz0
  have hval : ∀ (j : Nat) t v, Tryd.f3.params[j]? = some t → args[j]? = some v → Value.okWide Tryd.prog W .any base t v := hval0
  have hW' := hW
  obtain ⟨p, q, hA0, hV, rfl, hfz, hnd⟩ := hW
  have hA : DataW.TrodAll enc Tryd.prog W 0 (fun _ => true) true Tryd.f3.params.toList args.toList ds p := hA0
  rw [Tryd.params3] at hA hval hsz
  obtain ⟨v0, vs0, d0, ds0, p0, q0, hargs, rfl, rfl, h0, r0⟩ := trodAll_cons hA
  obtain ⟨v1, vs1, d1, ds1, p1, q1, rfl, rfl, rfl, h1, r1⟩ := trodAll_cons r0
  obtain ⟨v2, vs2, d2, ds2, p2, q2, rfl, rfl, rfl, h2, r2⟩ := trodAll_cons r1
  obtain ⟨rfl, rfl, rfl⟩ := trodAll_nil r2
  obtain rfl : args = #[v0, v1, v2] := by cases args; simp_all
  obtain ⟨rfl, rfl⟩ := trodVars_none hV
  have k0 := h0
  have lt0 : ∀ x ∈ p0, x.block < W.heap.size := by obtain ⟨m, hm⟩ := k0; exact DataW.trod_lt m _ _ _ hm
  obtain ⟨x0, K0, ok0, sz0⟩ := told_arg told_cf h0 hsz (j := 0) rfl rfl
  have V0 := vl_struct K0 (by rw [show (cfV x0).length = 2 from (fun _ => rfl) x0]; decide)
  have k1 := h1
  have lt1 : ∀ x ∈ p1, x.block < W.heap.size := by obtain ⟨m, hm⟩ := k1; exact DataW.trod_lt m _ _ _ hm
  obtain ⟨x1, K1, ok1, sz1⟩ := told_arg (told_string Tryd.underlying9) h1 hsz (j := 1) rfl rfl
  obtain ⟨n1, rfl⟩ := okWide_string Tryd.underlying9 (hval 1 9 v1 rfl rfl)
  have V1 := vl_one K1 (by rintro cs ⟨⟩)
  have k2 := h2
  have lt2 : ∀ x ∈ p2, x.block < W.heap.size := by obtain ⟨m, hm⟩ := k2; exact DataW.trod_lt m _ _ _ hm
  obtain ⟨x2, K2, ok2, sz2⟩ := told_arg (told_int (k := .i64) Tryd.underlying3) h2 hsz (j := 2) rfl rfl
  obtain ⟨n2, rfl⟩ := okWide_int Tryd.underlying3 (hval 2 3 v2 rfl rfl)
  have V2 := vl_one K2 (by rintro cs ⟨⟩)
  clear hA0 hval0 hsz0 hsz hval
  have hcall : ACall cx 3 [(AV.agg (cfV x0)), (AV.str x1), (AV.int .i64 x2)] (.bool true) none := (reportLines_ok awake_ok x0 x1 x2)
  refine (law_calls hcall (W := W) (vs := #[v0, _, _]) (vars_of_laid hL) rfl ?_).mono fun e W' ⟨he, bel⟩ => ?_
  · intro i x v hx hv
    rcases i with _ | i
    · cases hx; cases hv; exact V0
    rcases i with _ | i
    · cases hx; cases hv; exact V1
    rcases i with _ | i
    · cases hx; cases hv; exact V2
    · simp at hx
  subst he
  exact ⟨_, rfl, _, _, _, [], _, [], hW', trodAll_mk1 (shut_bool Tryd.underlying4 _), (trodAll_cons_mk (Below.trod laidOut (by kernel_rfl) (of_decide_eq_true (by kernel_rfl)) k0 bel lt0) (trodAll_cons_mk (Below.trod laidOut (by kernel_rfl) (of_decide_eq_true (by kernel_rfl)) k1 bel lt1) (trodAll_cons_mk (Below.trod laidOut (by kernel_rfl) (of_decide_eq_true (by kernel_rfl)) k2 bel lt2) trodAll_mk0))), rfl, bel.frame _, fun h => by cases h⟩
theorem over : Rows.reportLinesRow.holds Tryd.pinned (OpenSpec.ofChange Rows.reportLinesSpec) :=
  OpenClaim.holds_of_wide 3 Tryd.f3 rfl rfl rfl rfl rfl rfl rfl ⟨rfl, rfl, rfl, rfl, rfl⟩ rfl rfl rfl rfl rfl (by kernel_rfl) Tryd.func3 (by kernel_rfl)
    (of_decide_eq_true (by kernel_rfl)) (by unfold Func.isWrapper; first | (rw [if_pos (by decide +kernel)]; kernel_rfl) | (rw [if_neg (by decide +kernel)]; exact ⟨rfl, rfl⟩))
    (fun os started H enc _ => lifted os started H enc)
theorem card : Rows.ReportLinesCardSaid :=
  Claim7.holds_tied_plain_at .later [] [.widerDeep, .widerDeep, .widerDeep] true (true, "d8064cb73c16a12ae210450645f5a6df6410aab67dbab2ea9ec3e1ba9de87995") false
    over (fun _ h => by cases h) (by kernel_rfl) (fun _ h => by cases h) reportLines_row_tie rfl ⟨rfl, rfl⟩ (by kernel_rfl) rfl
    (fun f fn hf hfn => by
      obtain rfl : f = 3 := Option.some.inj ((show Tryd.prog.funcNamed "concordat/concordatlaw33.ReportLines" = some 3 by kernel_rfl).symm.trans hf) |>.symm
      obtain rfl : fn = Tryd.f3 := (Option.some.inj (Tryd.func3.symm.trans hfn)).symm
      exact ⟨by kernel_rfl, fun j t ht => by
        rw [Tryd.params3] at ht
        have hm : t ∈ [23, 9, 3] := by simpa using Array.mem_of_getElem? ht
        have hall : ([23, 9, 3].all fun u => !Tryd.prog.wantsStandIn u) = true := by kernel_rfl
        exact (show Tryd.prog.wantsStandIn t = false by simpa using List.all_eq_true.1 hall t hm)⟩)
    (by kernel_rfl)
theorem proved : Rows.ReportLinesCardSaid := card
#print axioms proved
end Go.Proofs.YtbhomjhhinfojaaDoor.reportLines
namespace Go.Proofs.YtbhomjhhinfojaaDoor
/-- The row, under a short name, for the claim. -/
theorem reportLines_holds : Rows.ReportLinesCardSaid := reportLines.proved
end Go.Proofs.YtbhomjhhinfojaaDoor
