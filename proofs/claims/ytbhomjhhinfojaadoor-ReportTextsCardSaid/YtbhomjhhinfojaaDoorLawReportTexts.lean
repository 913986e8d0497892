/- All that is told of any merge, and how many conflicts of each kind there are, is the document's; for all requests and conflicts. -/
import Derived.Test.YtbhomjhhinfojaaDoorRows
import Derived.Test.YtbhomjhhinfojaaDoorAlReportTexts5
import Derived.Test.YtbhomjhhinfojaaDoorTie
import Derived.Test.YtbhomjhhinfojaaDoorCards
import Derived.WalkKit
import Derived.ProofKit
import Derived.OpenShut
import Derived.ShutString
import Derived.ChangeOld
import Derived.Below
import Derived.SizedLaws
import Derived.LaidMore
import Derived.Stop.Joined
import Derived.SevenTiedAt
namespace Go.Proofs.YtbhomjhhinfojaaDoor.reportTexts
open Go.ChangeShapes Go.WideShapes Go.ChangeAt Go.RowKit Go.Proofs.AL
open Go.ChangeMaps (open_string shut_string)
set_option linter.unusedVariables false
theorem own : ownKnob Tryd.prog.godebug = none := by kernel_rfl
theorem laidOut : laidOutB Tryd.prog = true := by kernel_rfl
set_option maxHeartbeats 2000000 in
set_option maxRecDepth 100000 in
theorem lifted (os : Os) (started : os.Started) (H : Type) (enc : TypeId × Value → H) :
    ReturnsInHanded {} Tryd.checked os 4 .any (fun w args => (Rows.reportTextsSpec.pre enc Tryd.prog Tryd.f4 [] false w args ∧ laidMetH Tryd.prog Rows.reportTextsRow.laid w) ∧ sizedMet enc Tryd.prog Tryd.f4 (OpenSpec.ofChange Rows.reportTextsSpec) false w args) (Rows.reportTextsSpec.post enc Tryd.prog Tryd.f4 false true false false) := by
  refine returnsInHanded_of_change_and (C := Tryd.checked) (X := fun w _ => laidMetH Tryd.prog Rows.reportTextsRow.laid w) (fun _ _ _ hh h => h.of_heap hh) own started (by kernel_rfl) Tryd.func4
    (ChangeSpec.witness_shaped (enc := enc) (C := Tryd.checked) (os := os) (X := fun w _ => laidMetH Tryd.prog Rows.reportTextsRow.laid w) false (World.doorLaid Tryd.prog 24 os) #[.slice none 0 0, .slice none 0 0, .slice none 0 0] 8 rfl (World.shaped_of_RefB (by kernel_rfl) (by kernel_rfl)) (by kernel_rfl) (by kernel_rfl) (by kernel_rfl) (door_met os _)) ?_
  intro W base args ds gs before hval0 hW hcnd hsz0 hL _
  have hsz : (DataW.weightsEach Tryd.prog (Tryd.f4.params.toList ++ Rows.reportTextsSpec.plain.varTypes Tryd.prog) (ds ++ gs)).all (· ≤ reachBytes) = true := hsz0
  have hval : ∀ (j : Nat) t v, Tryd.f4.params[j]? = some t → args[j]? = some v → Value.okWide Tryd.prog W .any base t v := hval0
  have hW' := hW
  obtain ⟨p, q, hA0, hV, rfl, hfz, hnd⟩ := hW
  have hA : DataW.TrodAll enc Tryd.prog W 0 (fun _ => true) true Tryd.f4.params.toList args.toList ds p := hA0
  rw [Tryd.params4] at hA hval hsz
  obtain ⟨v0, vs0, d0, ds0, p0, q0, hargs, rfl, rfl, h0, r0⟩ := trodAll_cons hA
  obtain ⟨v1, vs1, d1, ds1, p1, q1, rfl, rfl, rfl, h1, r1⟩ := trodAll_cons r0
  obtain ⟨v2, vs2, d2, ds2, p2, q2, rfl, rfl, rfl, h2, r2⟩ := trodAll_cons r1
  obtain ⟨rfl, rfl, rfl⟩ := trodAll_nil r2
  obtain rfl : args = #[v0, v1, v2] := by cases args; simp_all
  obtain ⟨rfl, rfl⟩ := trodVars_none hV
  have k0 := h0
  have lt0 : ∀ x ∈ p0, x.block < W.heap.size := by obtain ⟨m, hm⟩ := k0; exact DataW.trod_lt m _ _ _ hm
  obtain ⟨x0, K0, ok0, sz0⟩ := told_arg (told_slice (P := Tryd.prog) (t := 30) (e := 33) (cells := rqV) 3 40 (by decide) Tryd.underlying30 (by kernel_rfl) (by kernel_rfl) (fun _ => rfl) told_rq) h0 hsz (j := 0) rfl rfl
  obtain ⟨a0, len0, cap0, rfl⟩ := okWide_slice Tryd.underlying30 (hval 0 30 v0 rfl rfl)
  have V0 := vl_one K0 (by rintro cs ⟨⟩)
  have k1 := h1
  have lt1 : ∀ x ∈ p1, x.block < W.heap.size := by obtain ⟨m, hm⟩ := k1; exact DataW.trod_lt m _ _ _ hm
  obtain ⟨x1, K1, ok1, sz1⟩ := told_arg (told_slice (P := Tryd.prog) (t := 30) (e := 33) (cells := rqV) 3 40 (by decide) Tryd.underlying30 (by kernel_rfl) (by kernel_rfl) (fun _ => rfl) told_rq) h1 hsz (j := 1) rfl rfl
  obtain ⟨a1, len1, cap1, rfl⟩ := okWide_slice Tryd.underlying30 (hval 1 30 v1 rfl rfl)
  have V1 := vl_one K1 (by rintro cs ⟨⟩)
  have k2 := h2
  have lt2 : ∀ x ∈ p2, x.block < W.heap.size := by obtain ⟨m, hm⟩ := k2; exact DataW.trod_lt m _ _ _ hm
  obtain ⟨x2, K2, ok2, sz2⟩ := told_arg (told_slice (P := Tryd.prog) (t := 31) (e := 23) (cells := cfV) 2 24 (by decide) Tryd.underlying31 (by kernel_rfl) (by kernel_rfl) (fun _ => rfl) told_cf) h2 hsz (j := 2) rfl rfl
  obtain ⟨a2, len2, cap2, rfl⟩ := okWide_slice Tryd.underlying31 (hval 2 31 v2 rfl rfl)
  have V2 := vl_one K2 (by rintro cs ⟨⟩)
  clear hA0 hval0 hsz0 hsz hval
  have hcall : ACall cx 4 [(AV.sl 0 (x0.map rqV)), (AV.sl 0 (x1.map rqV)), (AV.sl 0 (x2.map cfV))] (.bool true) none := (reportTexts_ok awake_ok x0 x1 x2 (fun r hr => ⟨Nat.le_trans (ok0.2 r hr).2.1 (by decide), Nat.le_trans (ok0.2 r hr).2.2 (by decide)⟩) (fun r hr => ⟨Nat.le_trans (ok1.2 r hr).2.1 (by decide), Nat.le_trans (ok1.2 r hr).2.2 (by decide)⟩) (fun r hr => Nat.le_trans (ok2.2 r hr).2 (by decide)))
  refine (law_calls hcall (W := W) (vs := #[_, _, _]) (vars_of_laid hL) rfl ?_).mono fun e W' ⟨he, bel⟩ => ?_
  · intro i x v hx hv
    rcases i with _ | i
    · cases hx; cases hv; exact V0
    rcases i with _ | i
    · cases hx; cases hv; exact V1
    rcases i with _ | i
    · cases hx; cases hv; exact V2
    · simp at hx
  subst he
  exact ⟨_, rfl, _, _, _, [], _, [], hW', trodAll_mk1 (shut_bool Tryd.underlying4 _), (trodAll_cons_mk (Below.trod laidOut (by kernel_rfl) (of_decide_eq_true (by kernel_rfl)) k0 bel lt0) (trodAll_cons_mk (Below.trod laidOut (by kernel_rfl) (of_decide_eq_true (by kernel_rfl)) k1 bel lt1) (trodAll_cons_mk (Below.trod laidOut (by kernel_rfl) (of_decide_eq_true (by kernel_rfl)) k2 bel lt2) trodAll_mk0))), rfl, bel.frame _, fun h => by cases h⟩
theorem over : Rows.reportTextsRow.holds Tryd.pinned (OpenSpec.ofChange Rows.reportTextsSpec) :=
  OpenClaim.holds_of_wide 4 Tryd.f4 rfl rfl rfl rfl rfl rfl rfl ⟨rfl, rfl, rfl, rfl, rfl⟩ rfl rfl rfl rfl rfl (by kernel_rfl) Tryd.func4 (by kernel_rfl)
    (of_decide_eq_true (by kernel_rfl)) (by unfold Func.isWrapper; first | (rw [if_pos (by decide +kernel)]; kernel_rfl) | (rw [if_neg (by decide +kernel)]; exact ⟨rfl, rfl⟩))
    (fun os started H enc _ => lifted os started H enc)
theorem card : Rows.ReportTextsCardSaid :=
  Claim7.holds_tied_plain_at .later [] [.widerDeep, .widerDeep, .widerDeep] true (true, "d8064cb73c16a12ae210450645f5a6df6410aab67dbab2ea9ec3e1ba9de87995") false
    over (fun _ h => by cases h) (by kernel_rfl) (fun _ h => by cases h) reportTexts_row_tie rfl ⟨rfl, rfl⟩ (by kernel_rfl) rfl
    (fun f fn hf hfn => by
      obtain rfl : f = 4 := Option.some.inj ((show Tryd.prog.funcNamed "concordat/concordatlaw33.ReportTexts" = some 4 by kernel_rfl).symm.trans hf) |>.symm
      obtain rfl : fn = Tryd.f4 := (Option.some.inj (Tryd.func4.symm.trans hfn)).symm
      exact ⟨by kernel_rfl, fun j t ht => by
        rw [Tryd.params4] at ht
        have hm : t ∈ [30, 30, 31] := by simpa using Array.mem_of_getElem? ht
        have hall : ([30, 30, 31].all fun u => !Tryd.prog.wantsStandIn u) = true := by kernel_rfl
        exact (show Tryd.prog.wantsStandIn t = false by simpa using List.all_eq_true.1 hall t hm)⟩)
    (by kernel_rfl)
theorem proved : Rows.ReportTextsCardSaid := card
#print axioms proved
end Go.Proofs.YtbhomjhhinfojaaDoor.reportTexts
namespace Go.Proofs.YtbhomjhhinfojaaDoor
/-- The row, under a short name, for the claim. -/
theorem reportTexts_holds : Rows.ReportTextsCardSaid := reportTexts.proved
end Go.Proofs.YtbhomjhhinfojaaDoor
