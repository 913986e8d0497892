/- What the functions that the law FlowChecks reaches compute, and the law (part 4). -/
import Derived.Test.YtknabihpplaheaaAlFlowChecks3
namespace Go.Proofs.AL
open Go Go.RowKit Go.Proofs.Try
set_option maxRecDepth 100000
set_option linter.unusedSimpArgs false
def Nd.Pm (l : List Tk) (x : Nd) : Prop := x.kind = 4 ∧ x.kids = [] ∧ tokAt l x.text x.at_
def Nd.Mb (l : List Tk) (x : Nd) : Prop := (x.kind = 2 ∧ x.kids = [] ∨ x.kind = 3 ∧ ∃ ps b, x.kids = ps ++ [b] ∧ (∀ p ∈ ps, Nd.Pm l p) ∧ Nd.St l b) ∧ tokAt l x.text x.at_
def Nd.Cl (l : List Tk) (x : Nd) : Prop := x.kind = 1 ∧ (∀ m ∈ x.kids, Nd.Mb l m) ∧ tokAt l x.text x.at_
theorem kindV_lt {s : ByteArray} {l : List Tk} (h : Tk.good s l) {a : Nat} (e : kindV l a = true) : a + 1 < l.length := by
  simp only [kindV, Bool.or_eq_true] at e
  rcases e with ((e | e) | e) | e
  · exact nameV_lt h e
  · exact isV_lt h e
  · exact isV_lt h e
  · exact isV_lt h e
theorem rules_bad {P : Nd → Prop} {l : List Tk} {a : Nat} {w e : Int} (h : 0 ≤ w) : rulesQ P l a (.tup [.sl 0 [], .int .i64 0, .agg [.int .i64 w, .int .i64 e]]) := ⟨[], 0, w, e, rfl, fun h' => by omega⟩
theorem rules_good {P : Nd → Prop} {l : List Tk} {a : Nat} (ks : List Nd) (b : Nat) (h1 : ∀ n ∈ ks, P n) (h2 : a < b) (h3 : b < l.length) (h4 : Nd.countL ks + a + 1 ≤ b) : rulesQ P l a (.tup [.sl 0 (Nd.rows ks), .int .i64 (b : Nat), .agg [.int .i64 (-1), .int .i64 0]]) := ⟨ks, b, -1, 0, rfl, fun _ => ⟨h1, h2, h3, h4⟩⟩
set_option maxHeartbeats 16000000 in
theorem params_ok {s : ByteArray} {l : List Tk} (hg : Tk.good s l) (a : Nat) (ha : a < l.length) : ACallQ cx 46 [.sl 0 (Tk.rows l), .int .i64 (a : Nat)] (rulesQ (Nd.Pm l) l a) (some (0, 24)) := by
  refine ACallQ.wpl (C := cx) T.func_46 (by kernel_rfl) rfl (by rfl) (fun _ => ?_)
  have hl : l.length ≤ 10000000 := by have := Tk.good_len hg; omega
  have ha0 : a < l.length := by omega
  have w1 : IntKind.i64.wrap ((a : Int) + 1) = ((a + 1 : Nat) : Int) := by rw [wrap64_in (by omega) (by omega)]; omega
  have w2 : IntKind.i64.wrap ((a : Int) + 2) = ((a + 2 : Nat) : Int) := by rw [wrap64_in (by omega) (by omega)]; omega
  simp [f46]
  refine callP_i (is_ok _ _ _) ?_
  simp
  cases e1 : isV l a ⟨#[41]⟩ <;> simp [e1, pu]
  rotate_left
  · refine callP_i fine_ok ?_
    simp [w1]
    exact ⟨rules_good [] (a + 1) (by simp) (by omega) (isV_lt hg e1) (by simp [countL_nil]), by simp [ownOf]⟩
  refine loopK [0, 6] (fun (p : Nat × Nat × List Nd) nx => a ≤ p.1 ∧ p.1 < l.length ∧ p.2.1 < nx ∧ (p.2.1 = 1 ∧ p.2.2 = [] ∨ 3 ≤ p.2.1) ∧ (∀ y ∈ p.2.2, Nd.Pm l y) ∧ Nd.countL p.2.2 + a ≤ p.1) (fun p => [(1, .int .i64 (p.1 : Nat)), (7, .sl p.2.1 (Nd.rows p.2.2))]) (fun _ => [[.int .i64 0, .int .i64 0]]) (fun p => if p.2.1 = 1 then [] else [(p.2.1, 24)]) (fun p => l.length - p.1) (a, 1, []) (by simp [Nd.countL]; omega) (by simp) [] rfl (by simp) ?_
  rintro ⟨c, tk, ks⟩ nx g ⟨hc1, hc2, htk, hk, hP, hct⟩ h3 -
  dsimp only at hc1 hc2 htk hk hP hct
  have hlv : tk = 1 ∨ tk = 2 ∨ ¬tk = 0 ∧ ¬tk = 2 ∧ look (if tk = 1 then [] else [(tk, 24)]) tk = some 24 := by
    rcases hk with ⟨h, -⟩ | h
    · exact .inl h
    · have : ¬ tk = 1 := by omega
      exact .inr (.inr ⟨by omega, by omega, by simp [this]⟩)
  have hnx : ¬ nx = 1 := by omega
  have hkl := Nd.len_countL ks
  have wc1 : IntKind.i64.wrap ((c : Int) + 1) = ((c + 1 : Nat) : Int) := by rw [wrap64_in (by omega) (by omega)]; omega
  have wc2 : IntKind.i64.wrap ((c : Int) + 2) = ((c + 2 : Nat) : Int) := by rw [wrap64_in (by omega) (by omega)]; omega
  have wc3 : IntKind.i64.wrap ((c : Int) + 3) = ((c + 3 : Nat) : Int) := by rw [wrap64_in (by omega) (by omega)]; omega
  simp
  refine callP_i (kind_ok _ _) ?_
  simp
  cases e2 : kindV l c <;> simp [e2, pu]
  · refine callP_i (syntax_ok _) ?_
    simp
    exact ⟨rules_bad (by omega), by simp [ownOf]⟩
  have ke2 := kindV_lt hg e2
  refine callP_i (is_ok _ _ _) ?_
  simp
  cases e3 : isV l c ⟨#[118, 111, 105, 100]⟩ <;> simp [e3, pu]
  rotate_left
  · refine callP_i (syntax_ok _) ?_
    simp
    exact ⟨rules_bad (by omega), by simp [ownOf]⟩
  rw [wc1]
  refine callP_i (name_ok _ _) ?_
  simp
  cases e4 : nameV l (c + 1) <;> simp [e4, pu]
  · rw [wc1]
    refine callP_i (syntax_ok _) ?_
    simp
    exact ⟨rules_bad (by omega), by simp [ownOf]⟩
  have ke4 := nameV_lt hg e4
  rw [wc2]
  refine callP_i (made_ok l 4 c (c + 2) [] hc2 (by omega) (by omega) (by omega)) ?_
  simp
  refine callP_i (typed_ok l _ c (by omega) (by omega)) ?_
  simp
  generalize hpn : Nd.mk 4 (l[c + 1]?.getD default).text (l[c]?.getD default).text 0 (l[c]?.getD default).at_ (endV l (c + 2)) (l[c + 1]?.getD default).at_ (l[c]?.getD default).at_ [] = pn
  have hpc : pn.count = 1 := by subst hpn; rfl
  have hpp : Nd.Pm l pn := by subst hpn; exact ⟨rfl, rfl, c + 1, e4, by simp, by simp⟩
  have hP' : ∀ y ∈ ks ++ [pn], Nd.Pm l y := fun y hy => by
    rcases List.mem_append.1 hy with h | h
    · exact hP y h
    · simp only [List.mem_singleton] at h
      exact h ▸ hpp
  have hct' : Nd.countL (ks ++ [pn]) = Nd.countL ks + pn.count := by rw [Nd.countL_append]; simp [Nd.countL]
  refine ⟨⟨by omega, hlv⟩, ?_⟩
  rw [wc2]
  refine callP_i (is_ok _ _ _) ?_
  simp
  cases e5 : isV l (c + 2) ⟨#[41]⟩ <;> simp [e5, pu]
  rotate_left
  · refine callP_i fine_ok ?_
    simp [wc3]
    exact ⟨rules_good (ks ++ [pn]) (c + 3) hP' (by omega) (isV_lt hg e5) (by omega), by simp [ownOf]; omega⟩
  rw [wc2]
  refine callP_i (is_ok _ _ _) ?_
  simp
  cases e6 : isV l (c + 2) ⟨#[44]⟩ <;> simp [e6, pu]
  · rw [wc2]
    refine callP_i (syntax_ok _) ?_
    simp
    exact ⟨rules_bad (by omega), by simp [ownOf]⟩
  have ke6 := isV_lt hg e6
  exact againK_i (c + 3, nx, ks ++ [pn]) g ⟨by dsimp only; omega, ke6, by simp, .inr h3, hP', by dsimp only; omega⟩ (by dsimp only; omega) (by simp [wc3]) (by simp) (by simp [hnx])
set_option maxHeartbeats 16000000 in
theorem member_ok {s : ByteArray} {l : List Tk} (hg : Tk.good s l) (a : Nat) (ha : a < l.length) : ACallQ cx 31 [.sl 0 (Tk.rows l), .int .i64 (a : Nat)] (ruleQ (Nd.Mb l) l a) none := by
  refine ACallQ.wpl (C := cx) T.func_31 (by kernel_rfl) rfl (by rfl) (fun _ => ?_)
  have hl : l.length ≤ 10000000 := by have := Tk.good_len hg; omega
  have ha0 : a < l.length := by omega
  have w1 : IntKind.i64.wrap ((a : Int) + 1) = ((a + 1 : Nat) : Int) := by rw [wrap64_in (by omega) (by omega)]; omega
  have w2 : IntKind.i64.wrap ((a : Int) + 2) = ((a + 2 : Nat) : Int) := by rw [wrap64_in (by omega) (by omega)]; omega
  simp [f31]
  refine callP_i (is_ok _ _ _) ?_
  simp
  cases e0 : isV l a ⟨#[115, 116, 97, 116, 105, 99]⟩ <;> simp [e0, pu]
  · have v1 : IntKind.i64.wrap ((a : Int) + 1) = ((a + 1 : Nat) : Int) := by rw [wrap64_in (by omega) (by omega)]; omega
    have v2 : IntKind.i64.wrap ((a : Int) + 2) = ((a + 2 : Nat) : Int) := by rw [wrap64_in (by omega) (by omega)]; omega
    have v3 : IntKind.i64.wrap ((a : Int) + 2 + 1) = ((a + 3 : Nat) : Int) := by rw [wrap64_in (by omega) (by omega)]; omega
    refine callP_i (kind_ok _ _) ?_
    simp
    cases e1 : kindV l a <;> simp [e1, pu]
    · refine callP_i (syntax_ok _) ?_
      simp
      exact rule_bad default 0 (by omega)
    have ke1 := kindV_lt hg e1
    rw [v1]
    refine callP_i (name_ok _ _) ?_
    simp
    cases e2 : nameV l (a + 1) <;> simp [e2, pu]
    · rw [v1]
      refine callP_i (syntax_ok _) ?_
      simp
      exact rule_bad default 0 (by omega)
    have ke2 := nameV_lt hg e2
    rw [v2]
    refine callP_i (is_ok _ _ _) ?_
    simp
    cases e3 : isV l (a + 2) ⟨#[59]⟩ <;> simp [e3, pu]
    · refine callP_i (is_ok _ _ _) ?_
      simp
      cases e4 : isV l (a + 2) ⟨#[40]⟩ <;> simp [e4, pu]
      · refine callP_i (syntax_ok _) ?_
        simp
        exact rule_bad default 0 (by omega)
      have ke4 := isV_lt hg e4
      rw [v3]
      refine callP_q (params_ok hg (a + 3) ke4) ?_
      rintro _ ⟨ks, b, w, e, rfl, hw⟩
      simp
      refine split2_i (fun e5 => ?_) (fun e5 => ?_) <;> simp [e5, pu]
      · exact ⟨by kernel_rfl, rule_bad default 0 (by simp at e5; omega)⟩
      obtain ⟨hPk, hb1, hb2, hb3⟩ := hw (by simp at e5; omega)
      refine callP_q (blk_ok hg b 1 hb2) ?_
      rintro _ ⟨n, q, w', e', rfl, hw'⟩
      simp
      refine split2_i (fun e6 => ?_) (fun e6 => ?_) <;> simp [e6, pu]
      · exact ⟨by kernel_rfl, rule_bad default 0 (by simp at e6; omega)⟩
      obtain ⟨hPn, hq1, hq2, hq3⟩ := hw' (by simp at e6; omega)
      have hkl := Nd.len_countL ks
      have hct' : Nd.countL (ks ++ [n]) = Nd.countL ks + n.count := by rw [Nd.countL_append]; simp [Nd.countL]
      refine ⟨by omega, ?_⟩
      refine callP_i (made_ok l 3 a q (ks ++ [n]) ha0 (by omega) (by omega) (by omega)) ?_
      simp
      refine callP_i (typed_ok l _ a (by omega) (by omega)) ?_
      simp
      refine callP_i fine_ok ?_
      simp
      refine ⟨by kernel_rfl, rule_good _ q ⟨.inr ⟨by simp, ks, n, by simp, hPk, hPn⟩, a + 1, e2, by simp, by simp⟩ (by omega) hq2 (by simp [Nd.count, hct']; omega)⟩
    · have ke3 := isV_lt hg e3
      refine callP_i (is_ok _ _ _) ?_
      simp
      cases e4 : isV l a ⟨#[118, 111, 105, 100]⟩ <;> simp [e4, pu]
      rotate_left
      · refine callP_i (syntax_ok _) ?_
        simp
        exact rule_bad default 0 (by omega)
      rw [v3]
      refine callP_i (made_ok l 2 a (a + 3) [] ha0 (by omega) (by omega) (by omega)) ?_
      simp
      refine callP_i (typed_ok l _ a (by omega) (by omega)) ?_
      simp
      refine callP_i fine_ok ?_
      simp [v3]
      refine ⟨by kernel_rfl, rule_good _ (a + 3) ⟨.inl ⟨by simp, by simp⟩, a + 1, e2, by simp, by simp⟩ (by omega) ke3 (by simp [Nd.count, countL_nil]; omega)⟩
  · have ke0 := isV_lt hg e0
    rw [w1]
    obtain ⟨c, hc⟩ : ∃ c, c = a + 1 := ⟨_, rfl⟩
    rw [← hc]
    have v1 : IntKind.i64.wrap ((c : Int) + 1) = ((c + 1 : Nat) : Int) := by rw [wrap64_in (by omega) (by omega)]; omega
    have v2 : IntKind.i64.wrap ((c : Int) + 2) = ((c + 2 : Nat) : Int) := by rw [wrap64_in (by omega) (by omega)]; omega
    have v3 : IntKind.i64.wrap ((c : Int) + 2 + 1) = ((c + 3 : Nat) : Int) := by rw [wrap64_in (by omega) (by omega)]; omega
    refine callP_i (kind_ok _ _) ?_
    simp
    cases e1 : kindV l c <;> simp [e1, pu]
    · refine callP_i (syntax_ok _) ?_
      simp
      exact rule_bad default 0 (by omega)
    have ke1 := kindV_lt hg e1
    rw [v1]
    refine callP_i (name_ok _ _) ?_
    simp
    cases e2 : nameV l (c + 1) <;> simp [e2, pu]
    · rw [v1]
      refine callP_i (syntax_ok _) ?_
      simp
      exact rule_bad default 0 (by omega)
    have ke2 := nameV_lt hg e2
    rw [v2]
    refine callP_i (is_ok _ _ _) ?_
    simp
    cases e3 : isV l (c + 2) ⟨#[59]⟩ <;> simp [e3, pu]
    · refine callP_i (is_ok _ _ _) ?_
      simp
      cases e4 : isV l (c + 2) ⟨#[40]⟩ <;> simp [e4, pu]
      · refine callP_i (syntax_ok _) ?_
        simp
        exact rule_bad default 0 (by omega)
      have ke4 := isV_lt hg e4
      rw [v3]
      refine callP_q (params_ok hg (c + 3) ke4) ?_
      rintro _ ⟨ks, b, w, e, rfl, hw⟩
      simp
      refine split2_i (fun e5 => ?_) (fun e5 => ?_) <;> simp [e5, pu]
      · exact ⟨by kernel_rfl, rule_bad default 0 (by simp at e5; omega)⟩
      obtain ⟨hPk, hb1, hb2, hb3⟩ := hw (by simp at e5; omega)
      refine callP_q (blk_ok hg b 1 hb2) ?_
      rintro _ ⟨n, q, w', e', rfl, hw'⟩
      simp
      refine split2_i (fun e6 => ?_) (fun e6 => ?_) <;> simp [e6, pu]
      · exact ⟨by kernel_rfl, rule_bad default 0 (by simp at e6; omega)⟩
      obtain ⟨hPn, hq1, hq2, hq3⟩ := hw' (by simp at e6; omega)
      have hkl := Nd.len_countL ks
      have hct' : Nd.countL (ks ++ [n]) = Nd.countL ks + n.count := by rw [Nd.countL_append]; simp [Nd.countL]
      refine ⟨by omega, ?_⟩
      refine callP_i (made_ok l 3 a q (ks ++ [n]) ha0 (by omega) (by omega) (by omega)) ?_
      simp
      refine callP_i (typed_ok l _ c (by omega) (by omega)) ?_
      simp only [Nd.cells]
      simp [-Nd.fold, -Nd.fold0, -Nd.fold1]
      refine callP_i fine_ok ?_
      simp
      refine ⟨by kernel_rfl, rule_good _ q ⟨.inr ⟨by simp, ks, n, by simp, hPk, hPn⟩, c + 1, e2, by simp, by simp⟩ (by omega) hq2 (by simp [Nd.count, hct']; omega)⟩
    · have ke3 := isV_lt hg e3
      refine callP_i (is_ok _ _ _) ?_
      simp
      cases e4 : isV l c ⟨#[118, 111, 105, 100]⟩ <;> simp [e4, pu]
      rotate_left
      · refine callP_i (syntax_ok _) ?_
        simp
        exact rule_bad default 0 (by omega)
      rw [v3]
      refine callP_i (made_ok l 2 a (c + 3) [] ha0 (by omega) (by omega) (by omega)) ?_
      simp
      refine callP_i (typed_ok l _ c (by omega) (by omega)) ?_
      simp only [Nd.cells]
      simp [-Nd.fold, -Nd.fold0, -Nd.fold1]
      refine callP_i fine_ok ?_
      simp [v3]
      refine ⟨by kernel_rfl, rule_good _ (c + 3) ⟨.inl ⟨by simp, by simp⟩, c + 1, e2, by simp, by simp⟩ (by omega) ke3 (by simp [Nd.count, countL_nil]; omega)⟩
set_option maxHeartbeats 16000000 in
theorem class_ok {s : ByteArray} {l : List Tk} (hg : Tk.good s l) (a : Nat) (ha : a < l.length) : ACallQ cx 27 [.sl 0 (Tk.rows l), .int .i64 (a : Nat)] (ruleQ (Nd.Cl l) l a) none := by
  refine ACallQ.wpl (C := cx) T.func_27 (by kernel_rfl) rfl (by rfl) (fun _ => ?_)
  have hl : l.length ≤ 10000000 := by have := Tk.good_len hg; omega
  have ha0 : a < l.length := by omega
  have w1 : IntKind.i64.wrap ((a : Int) + 1) = ((a + 1 : Nat) : Int) := by rw [wrap64_in (by omega) (by omega)]; omega
  have w2 : IntKind.i64.wrap ((a : Int) + 2) = ((a + 2 : Nat) : Int) := by rw [wrap64_in (by omega) (by omega)]; omega
  simp [f27]
  refine callP_i (is_ok _ _ _) ?_
  simp
  cases e0 : isV l a ⟨#[99, 108, 97, 115, 115]⟩ <;> simp [e0, pu]
  · refine callP_i (syntax_ok _) ?_
    simp
    exact rule_bad default 0 (by omega)
  have ke0 := isV_lt hg e0
  rw [w1]
  refine callP_i (name_ok _ _) ?_
  simp
  cases e1 : nameV l (a + 1) <;> simp [e1, pu]
  · rw [w1]
    refine callP_i (syntax_ok _) ?_
    simp
    exact rule_bad default 0 (by omega)
  have ke1 := nameV_lt hg e1
  rw [w2]
  refine callP_i (is_ok _ _ _) ?_
  simp
  cases e2 : isV l (a + 2) ⟨#[101, 120, 116, 101, 110, 100, 115]⟩ <;> simp [e2, pu]
  · obtain ⟨c, hc⟩ : ∃ c : Nat, (a : Int) + 2 = c := ⟨a + 2, by omega⟩
    rw [hc]
    have hc3 : c = a + 2 := by omega
    have u1 : IntKind.i64.wrap ((c : Int) + 1) = ((c + 1 : Nat) : Int) := by rw [wrap64_in (by omega) (by omega)]; omega
    refine callP_i (is_ok _ _ _) ?_
    simp
    cases e3 : isV l c ⟨#[123]⟩ <;> simp [e3, pu]
    · refine callP_i (syntax_ok _) ?_
      simp
      exact rule_bad default 0 (by omega)
    have ke3 := isV_lt hg e3
    rw [u1]
    refine loopK [0, 1, 4, 6, 8] (fun (p : Nat × Nat × List Nd) nx => a < p.1 ∧ p.1 < l.length ∧ p.2.1 < nx ∧ (p.2.1 = 1 ∧ p.2.2 = [] ∨ 3 ≤ p.2.1) ∧ (∀ y ∈ p.2.2, Nd.Mb l y) ∧ Nd.countL p.2.2 + a + 1 ≤ p.1) (fun p => [(7, .int .i64 (p.1 : Nat)), (9, .sl p.2.1 (Nd.rows p.2.2))]) (fun _ => [[.int .i64 0, .str .empty, .str .empty, .int .i64 0, .int .i64 0, .int .i64 0, .int .i64 0, .int .i64 0, .sl 1 []], [.int .i64 0, .int .i64 0]]) (fun p => if p.2.1 = 1 then [] else [(p.2.1, 24)]) (fun p => l.length - p.1) (c + 1, 1, []) (by simp [Nd.countL]; omega) (by simp) [] rfl (by simp) ?_
    rintro ⟨b, tk, ks⟩ nx g ⟨hc1, hc2, htk, hk, hP, hct⟩ h3 -
    dsimp only at hc1 hc2 htk hk hP hct
    have hlv : tk = 1 ∨ tk = 2 ∨ ¬tk = 0 ∧ ¬tk = 2 ∧ look (if tk = 1 then [] else [(tk, 24)]) tk = some 24 := by
      rcases hk with ⟨h, -⟩ | h
      · exact .inl h
      · have : ¬ tk = 1 := by omega
        exact .inr (.inr ⟨by omega, by omega, by simp [this]⟩)
    have hnx : ¬ nx = 1 := by omega
    have hkl := Nd.len_countL ks
    have wb : IntKind.i64.wrap ((b : Int) + 1) = ((b + 1 : Nat) : Int) := by rw [wrap64_in (by omega) (by omega)]; omega
    simp
    refine callP_i (is_ok _ _ _) ?_
    simp
    cases e4 : isV l b ⟨#[125]⟩ <;> simp [e4, pu]
    · refine callP_q (member_ok hg b hc2) ?_
      rintro _ ⟨n, q, w, e, rfl, hw⟩
      simp
      refine split2_i (fun e5 => ?_) (fun e5 => ?_) <;> simp [e5, pu]
      · exact ⟨by kernel_rfl, rule_bad default 0 (by simp at e5; omega)⟩
      obtain ⟨hPn, hb1, hb2, hb3⟩ := hw (by simp at e5; omega)
      have hct' : Nd.countL (ks ++ [n]) = Nd.countL ks + n.count := by rw [Nd.countL_append]; simp [Nd.countL]
      have hP' : ∀ y ∈ ks ++ [n], Nd.Mb l y := fun y hy => by
        rcases List.mem_append.1 hy with h | h
        · exact hP y h
        · simp only [List.mem_singleton] at h
          exact h ▸ hPn
      exact ⟨⟨by omega, hlv⟩, againK_i (q, nx, ks ++ [n]) (g ++ [n.cells, [.int .i64 w, .int .i64 e]]) ⟨by dsimp only; omega, hb2, by simp, .inr h3, hP', by rw [hct']; dsimp only; omega⟩ (by dsimp only; omega) (by simp) (by simp) (by simp [hnx])⟩
    · have ke4 := isV_lt hg e4
      rw [wb]
      refine callP_i (made_ok l 1 a (b + 1) ks ha0 (by omega) (by omega) (by omega)) ?_
      have c1 : 0 ≤ (a : Int) + 1 := by omega
      have c2 : (a : Int) + 1 < l.length := by omega
      simp only [Nd.cells]
      simp [w1, c1, c2, -Nd.fold, -Nd.fold0, -Nd.fold1]
      refine callP_i fine_ok ?_
      simp [wb]
      refine ⟨by kernel_rfl, rule_good _ (b + 1) ⟨by simp, hP, a + 1, e1, by simp, by simp⟩ (by omega) ke4 (by simp [Nd.count]; omega)⟩
  · have ke2 := isV_lt hg e2
    have w3 : IntKind.i64.wrap ((a : Int) + 2 + 1) = ((a + 3 : Nat) : Int) := by rw [wrap64_in (by omega) (by omega)]; omega
    have w4 : IntKind.i64.wrap ((a : Int) + 2 + 2) = ((a + 4 : Nat) : Int) := by rw [wrap64_in (by omega) (by omega)]; omega
    rw [w3]
    refine callP_i (name_ok _ _) ?_
    simp
    cases e5 : nameV l (a + 3) <;> simp [e5, pu]
    · rw [w3]
      refine callP_i (syntax_ok _) ?_
      simp
      exact rule_bad default 0 (by omega)
    have ke5 := nameV_lt hg e5
    rw [w4]
    obtain ⟨c, hc⟩ : ∃ c, c = a + 4 := ⟨_, rfl⟩
    rw [← hc]
    have u1 : IntKind.i64.wrap ((c : Int) + 1) = ((c + 1 : Nat) : Int) := by rw [wrap64_in (by omega) (by omega)]; omega
    refine callP_i (is_ok _ _ _) ?_
    simp
    cases e3 : isV l c ⟨#[123]⟩ <;> simp [e3, pu]
    · refine callP_i (syntax_ok _) ?_
      simp
      exact rule_bad default 0 (by omega)
    have ke3 := isV_lt hg e3
    rw [u1]
    refine loopK [0, 1, 4, 6, 8] (fun (p : Nat × Nat × List Nd) nx => a < p.1 ∧ p.1 < l.length ∧ p.2.1 < nx ∧ (p.2.1 = 1 ∧ p.2.2 = [] ∨ 3 ≤ p.2.1) ∧ (∀ y ∈ p.2.2, Nd.Mb l y) ∧ Nd.countL p.2.2 + a + 1 ≤ p.1) (fun p => [(7, .int .i64 (p.1 : Nat)), (9, .sl p.2.1 (Nd.rows p.2.2))]) (fun _ => [[.int .i64 0, .str .empty, .str .empty, .int .i64 0, .int .i64 0, .int .i64 0, .int .i64 0, .int .i64 0, .sl 1 []], [.int .i64 0, .int .i64 0]]) (fun p => if p.2.1 = 1 then [] else [(p.2.1, 24)]) (fun p => l.length - p.1) (c + 1, 1, []) (by simp [Nd.countL]; omega) (by simp) [] rfl (by simp) ?_
    rintro ⟨b, tk, ks⟩ nx g ⟨hc1, hc2, htk, hk, hP, hct⟩ h3 -
    dsimp only at hc1 hc2 htk hk hP hct
    have hlv : tk = 1 ∨ tk = 2 ∨ ¬tk = 0 ∧ ¬tk = 2 ∧ look (if tk = 1 then [] else [(tk, 24)]) tk = some 24 := by
      rcases hk with ⟨h, -⟩ | h
      · exact .inl h
      · have : ¬ tk = 1 := by omega
        exact .inr (.inr ⟨by omega, by omega, by simp [this]⟩)
    have hnx : ¬ nx = 1 := by omega
    have hkl := Nd.len_countL ks
    have wb : IntKind.i64.wrap ((b : Int) + 1) = ((b + 1 : Nat) : Int) := by rw [wrap64_in (by omega) (by omega)]; omega
    simp
    refine callP_i (is_ok _ _ _) ?_
    simp
    cases e4 : isV l b ⟨#[125]⟩ <;> simp [e4, pu]
    · refine callP_q (member_ok hg b hc2) ?_
      rintro _ ⟨n, q, w, e, rfl, hw⟩
      simp
      refine split2_i (fun e5 => ?_) (fun e5 => ?_) <;> simp [e5, pu]
      · exact ⟨by kernel_rfl, rule_bad default 0 (by simp at e5; omega)⟩
      obtain ⟨hPn, hb1, hb2, hb3⟩ := hw (by simp at e5; omega)
      have hct' : Nd.countL (ks ++ [n]) = Nd.countL ks + n.count := by rw [Nd.countL_append]; simp [Nd.countL]
      have hP' : ∀ y ∈ ks ++ [n], Nd.Mb l y := fun y hy => by
        rcases List.mem_append.1 hy with h | h
        · exact hP y h
        · simp only [List.mem_singleton] at h
          exact h ▸ hPn
      exact ⟨⟨by omega, hlv⟩, againK_i (q, nx, ks ++ [n]) (g ++ [n.cells, [.int .i64 w, .int .i64 e]]) ⟨by dsimp only; omega, hb2, by simp, .inr h3, hP', by rw [hct']; dsimp only; omega⟩ (by dsimp only; omega) (by simp) (by simp) (by simp [hnx])⟩
    · have ke4 := isV_lt hg e4
      rw [wb]
      refine callP_i (made_ok l 1 a (b + 1) ks ha0 (by omega) (by omega) (by omega)) ?_
      have c1 : 0 ≤ (a : Int) + 1 := by omega
      have c2 : (a : Int) + 1 < l.length := by omega
      have c3 : 0 ≤ (a : Int) + 3 := by omega
      have c4 : (a : Int) + 3 < l.length := by omega
      simp only [Nd.cells]
      simp [w1, c1, c2, w3, c3, c4, -Nd.fold, -Nd.fold0, -Nd.fold1]
      refine callP_i fine_ok ?_
      simp [wb]
      refine ⟨by kernel_rfl, rule_good _ (b + 1) ⟨by simp, hP, a + 1, e1, by simp, by simp⟩ (by omega) ke4 (by simp [Nd.count]; omega)⟩
end Go.Proofs.AL
namespace Go.Proofs.AL
open Go Go.RowKit Go.Proofs.Try
set_option maxRecDepth 100000
set_option linter.unusedSimpArgs false
theorem depthQ_ok (x : Nd) : ACallQ cx 29 [.agg x.cells] (fun r => ∃ n, r = .int .i64 n) none := by
  induction x using Nd.ind with | _ x ih
  refine ACallQ.wpl (C := cx) T.func_29 (by kernel_rfl) rfl (by rfl) (fun hL => ?_)
  have hlen := Nd.lens (x := x) (t := 0) hL (by simp)
  clear hL
  simp [f29]
  refine loopK [1] (fun (p : Nat × Int) _ => p.1 ≤ x.kids.length) (fun p => [(4, .int .i64 (p.1 : Nat)), (3, .int .i64 p.2)]) (fun _ => [x.cells]) (fun _ => []) (fun p => x.kids.length - p.1) (0, 0) (by simp) (by simp) [] rfl (by simp) ?_
  rintro ⟨i, d⟩ nx g hi - -
  dsimp only at hi
  simp
  refine split2_i (fun h1 => ?_) (fun h1 => ?_) <;> simp [h1, pu]
  simp at h1
  simp [h1]
  refine callP_q (ih _ (List.getElem_mem _)) ?_
  rintro _ ⟨n, rfl⟩
  simp
  exact againK_i (i + 1, _) g h1 (by dsimp only; omega) ⟨by simp [wrap64_i h1 hlen], rfl, by simp⟩ rfl (by simp)
theorem mistake_ok {l : List Tk} (hl : l.length ≤ 10000000) (h0 : 0 < l.length) (w e : Int) (hw : 0 ≤ w) : ACallQ cx 28 [.sl 0 (Tk.rows l), .agg [.int .i64 w, .int .i64 e]] (fun r => ∃ a, r = .agg [.int .i64 e, .int .i64 0, .int .i64 a]) none := by
  refine ACallQ.wpl (C := cx) T.func_28 (by kernel_rfl) rfl (by rfl) (fun hL => ?_)
  have w1 : IntKind.i64.wrap ((l.length : Int) - 1) = (l.length : Int) - 1 := wrap64_in (by omega) (by omega)
  simp [f28, w1]
  refine ⟨⟨by split <;> omega, by split <;> omega⟩, by kernel_rfl⟩
def fileQ (s : ByteArray) (r : AV) : Prop := ∃ (ks : List Nd) (c f a : Int), r = .tup [.sl 0 (Nd.rows ks), .agg [.int .i64 c, .int .i64 f, .int .i64 a]] ∧ (ks = [] ∨ ∃ l, Tk.good s l ∧ (∀ x ∈ ks, Nd.Cl l x) ∧ Nd.countL ks ≤ l.length)
theorem file_ok (s : ByteArray) : ACallQ cx 16 [.str s] (fileQ s) none := by
  refine ACallQ.wpl (C := cx) T.func_16 (by kernel_rfl) rfl (by rfl) (fun hL => ?_)
  simp [f16]
  refine callP_q (lex_ok s) ?_
  rintro _ ⟨l, n, e, rfl, hg⟩
  simp
  refine split2_i (fun e1 => ?_) (fun e1 => ?_) <;> simp [e1, pu]
  · exact ⟨[], e, 0, n, rfl, .inl rfl⟩
  have hg := hg (by simpa using e1)
  have hl : l.length ≤ 1048577 := Tk.good_len hg
  have h0 : 0 < l.length := by obtain ⟨i, x, rfl, -⟩ := hg; simp
  refine loopK [3, 4] (fun (p : Nat × Nat × List Nd) nx => p.1 < l.length ∧ p.2.1 < nx ∧ (p.2.1 = 1 ∧ p.2.2 = [] ∨ 3 ≤ p.2.1) ∧ (∀ y ∈ p.2.2, Nd.Cl l y) ∧ Nd.countL p.2.2 ≤ p.1) (fun p => [(8, .int .i64 (p.1 : Nat)), (7, .sl p.2.1 (Nd.rows p.2.2))]) (fun _ => [[.int .i64 0, .int .i64 0, .int .i64 0]]) (fun p => if p.2.1 = 1 then [] else [(p.2.1, 24)]) (fun p => l.length - p.1) (0, 1, []) (by simp [Nd.countL]; omega) (by simp) [] rfl (by simp) ?_
  rintro ⟨b, tk, ks⟩ nx g ⟨hc2, htk, hk, hP, hct⟩ h3 -
  dsimp only at hc2 htk hk hP hct
  have hlv : tk = 1 ∨ tk = 2 ∨ ¬tk = 0 ∧ ¬tk = 2 ∧ look (if tk = 1 then [] else [(tk, 24)]) tk = some 24 := by
    rcases hk with ⟨h, -⟩ | h
    · exact .inl h
    · have : ¬ tk = 1 := by omega
      exact .inr (.inr ⟨by omega, by omega, by simp [this]⟩)
  have hnx : ¬ nx = 1 := by omega
  have hkl := Nd.len_countL ks
  simp [hc2]
  refine split2_i (fun e2 => ?_) (fun e2 => ?_) <;> simp [e2, pu]
  · refine callP_q (class_ok hg b hc2) ?_
    rintro _ ⟨n, q, w, e, rfl, hw⟩
    simp
    refine split2_i (fun e5 => ?_) (fun e5 => ?_) <;> simp [e5, pu]
    · refine callP_q (mistake_ok (by omega) h0 w e (by simp at e5; omega)) ?_
      rintro _ ⟨a, rfl⟩
      simp
      exact ⟨[], e, 0, a, rfl, .inl rfl⟩
    obtain ⟨hPn, hb1, hb2, hb3⟩ := hw (by simp at e5; omega)
    have hct' : Nd.countL (ks ++ [n]) = Nd.countL ks + n.count := by rw [Nd.countL_append]; simp [Nd.countL]
    have hP' : ∀ y ∈ ks ++ [n], Nd.Cl l y := fun y hy => by
      rcases List.mem_append.1 hy with h | h
      · exact hP y h
      · simp only [List.mem_singleton] at h
        exact h ▸ hPn
    exact ⟨⟨by omega, hlv⟩, againK_i (q, nx, ks ++ [n]) (g ++ [n.cells, [.int .i64 w, .int .i64 e]]) ⟨hb2, by simp, .inr h3, hP', by rw [hct']; dsimp only; omega⟩ (by dsimp only; omega) (by simp) (by simp) (by simp [hnx])⟩
  · refine loopK [3, 4, 7] (fun i _ => i ≤ ks.length) (fun i => [(12, .int .i64 (i : Nat))]) (fun _ => [[.int .i64 0, .int .i64 0, .int .i64 0]]) (fun _ => []) (fun i => ks.length - i) 0 (by simp) (by simp) g rfl (by simp [lookAll1]) ?_
    rintro i nx' g' hi - -
    simp
    refine split2_i (fun e3 => ?_) (fun e3 => ?_) <;> simp [e3, pu]
    · simp at e3
      simp [e3]
      refine callP_q (depthQ_ok _) ?_
      rintro _ ⟨m, rfl⟩
      simp
      refine split2_i (fun e4 => ?_) (fun e4 => ?_) <;> simp [e4, e3, pu]
      · exact ⟨by kernel_rfl, [], 2, 0, _, rfl, .inl rfl⟩
      · exact againK_i (i + 1) g' e3 (by omega) (by simp [wrap64_i e3 (show (ks.length : Int) ≤ 9223372036854775807 by omega)]) rfl (by simp)
    · exact ⟨ks, 0, 0, 0, rfl, .inr ⟨l, hg, hP, by omega⟩⟩
def oneQ (s : ByteArray) (r : AV) : Prop := ∃ (n : Nd) (c f a : Int), r = .tup [.agg n.cells, .agg [.int .i64 c, .int .i64 f, .int .i64 a]] ∧ (n = default ∨ ∃ l, Tk.good s l ∧ Nd.St l n ∧ n.count ≤ l.length)
set_option maxHeartbeats 4000000 in
theorem one2_ok (s : ByteArray) : ACallQ cx 19 [.str s, .int .i64 2] (oneQ s) none := by
  refine ACallQ.wpl (C := cx) T.func_19 (by kernel_rfl) rfl (by rfl) (fun hL => ?_)
  simp [f19]
  refine callP_q (lex_ok s) ?_
  rintro _ ⟨l, n, e, rfl, hg⟩
  simp
  refine split2_i (fun e1 => ?_) (fun e1 => ?_) <;> simp [e1, pu]
  · exact ⟨default, e, 0, n, rfl, .inl rfl⟩
  have hg := hg (by simpa using e1)
  have hl : l.length ≤ 1048577 := Tk.good_len hg
  have h0 : 0 < l.length := by obtain ⟨i, x, rfl, -⟩ := hg; simp
  refine callP_i (local_ok l 0 (by omega)) ?_
  simp
  cases e2 : localV l 0 <;> simp [e2, pu]
  · refine callP_q (stm_ok hg 0 1 h0) ?_
    rintro _ ⟨n, q, w, e, rfl, hw⟩
    simp
    by_cases hw0 : w < 0
    rotate_left
    · have hw1 : 0 ≤ w := by omega
      simp [hw0, hw1]
      refine callP_q (mistake_ok (by omega) h0 w e hw1) ?_
      rintro _ ⟨a, rfl⟩
      simp [pu]
      exact ⟨default, e, 0, a, rfl, .inl rfl⟩
    obtain ⟨hPn, hb1, hb2, hb3⟩ := hw hw0
    have hw1 : ¬ 0 ≤ w := by omega
    simp [hw0, hw1, hb2]
    refine split2_i (fun e3 => ?_) (fun e3 => ?_) <;> simp [e3, pu]
    · refine callP_i (syntax_ok _) ?_
      simp
      refine callP_q (mistake_ok (by omega) h0 q 120 (by omega)) ?_
      rintro _ ⟨a, rfl⟩
      simp [pu]
      exact ⟨default, 120, 0, a, rfl, .inl rfl⟩
    simp [hw1]
    refine callP_q (depthQ_ok _) ?_
    rintro _ ⟨m, rfl⟩
    simp
    refine split2_i (fun e4 => ?_) (fun e4 => ?_) <;> simp [e4, h0, pu]
    · exact ⟨by kernel_rfl, default, 2, 0, _, rfl, .inl rfl⟩
    · exact ⟨n, 0, 0, 0, rfl, .inr ⟨l, hg, hPn, by omega⟩⟩
  · refine callP_q (locals_ok hg 0 1 h0) ?_
    rintro _ ⟨n, q, w, e, rfl, hw⟩
    simp
    by_cases hw0 : w < 0
    rotate_left
    · have hw1 : 0 ≤ w := by omega
      simp [hw0, hw1]
      refine callP_q (mistake_ok (by omega) h0 w e hw1) ?_
      rintro _ ⟨a, rfl⟩
      simp [pu]
      exact ⟨default, e, 0, a, rfl, .inl rfl⟩
    obtain ⟨hPn, hb1, hb2, hb3⟩ := hw hw0
    have hw1 : ¬ 0 ≤ w := by omega
    simp [hw0, hw1, hb2]
    refine split2_i (fun e3 => ?_) (fun e3 => ?_) <;> simp [e3, pu]
    · refine callP_i (syntax_ok _) ?_
      simp
      refine callP_q (mistake_ok (by omega) h0 q 120 (by omega)) ?_
      rintro _ ⟨a, rfl⟩
      simp [pu]
      exact ⟨default, 120, 0, a, rfl, .inl rfl⟩
    simp [hw1]
    refine callP_q (depthQ_ok _) ?_
    rintro _ ⟨m, rfl⟩
    simp
    refine split2_i (fun e4 => ?_) (fun e4 => ?_) <;> simp [e4, h0, pu]
    · exact ⟨by kernel_rfl, default, 2, 0, _, rfl, .inl rfl⟩
    · exact ⟨n, 0, 0, 0, rfl, .inr ⟨l, hg, hPn, by omega⟩⟩
end Go.Proofs.AL
namespace Go.Proofs.AL
open Go Go.RowKit Go.Proofs.Try
set_option maxRecDepth 100000
set_option linter.unusedSimpArgs false
mutual
/-- How many statements there are. -/
def Nd.sc : Nd → Nat
  | .mk k t y n f o a ta l => (if (Nd.mk k t y n f o a ta l).stmt then 1 else 0) + Nd.scL l
def Nd.scL : List Nd → Nat
  | [] => 0
  | x :: l => x.sc + Nd.scL l
end
theorem Nd.sc_eq (x : Nd) : x.sc = (if x.stmt then 1 else 0) + Nd.scL x.kids := by cases x; rw [Nd.sc]; rfl
mutual
theorem Nd.sc_le : ∀ x : Nd, x.sc ≤ x.count
  | .mk k t y n f o a ta l => by
    have := Nd.scL_le l
    rw [Nd.sc, Nd.count]
    split <;> omega
theorem Nd.scL_le : ∀ l : List Nd, Nd.scL l ≤ Nd.countL l
  | [] => by simp [Nd.scL]
  | x :: l => by
    have h1 := Nd.sc_le x
    have h2 := Nd.scL_le l
    simp [Nd.scL, Nd.countL]; omega
end
def stmts (l : List Nd) : Nat := (l.filter Nd.stmt).length
theorem stmts_append (a b : List Nd) : stmts (a ++ b) = stmts a + stmts b := by simp [stmts]
mutual
theorem Nd.sc_all : ∀ x : Nd, stmts (x.all 0) = x.sc
  | .mk k t y n f o a ta l => by
    have := Nd.scL_all l
    rw [Nd.all, Nd.sc, stmts_append, this]
    simp [stmts, List.filter_cons]
    split <;> simp
theorem Nd.scL_all : ∀ l : List Nd, stmts (Nd.allL 0 l) = Nd.scL l
  | [] => by simp [Nd.allL, Nd.scL, stmts]
  | x :: l => by
    have h1 := Nd.sc_all x
    have h2 := Nd.scL_all l
    rw [Nd.allL, stmts_append, h1, h2, Nd.scL]
end
theorem stmts_take {l : List Nd} {i : Nat} (h : i < l.length) : stmts (l.take (i + 1)) = stmts (l.take i) + if l[i].stmt then 1 else 0 := by
  rw [List.take_succ_eq_append_getElem h, stmts_append]
  simp [stmts, List.filter_cons]
  split <;> simp
theorem stmts_le (l : List Nd) : stmts l ≤ l.length := List.length_filter_le _ _
theorem statements_ok (x : Nd) (hb : x.count ≤ 10000000) : ACall cx 20 [.agg x.cells] (.int .i64 x.sc) none := by
  refine ACall.wpl (C := cx) T.func_20 (by kernel_rfl) rfl (by rfl) (fun _ => ?_)
  simp [f20]
  refine callP_i (all_ok x 0 hb) ?_
  simp
  have hn := Nd.all_le 0 x
  generalize hl : x.all 0 = l
  have hsc : stmts l = x.sc := by rw [← hl, Nd.sc_all]
  rw [hl] at hn
  refine loopK [3] (fun i _ => i ≤ l.length) (fun i => [(5, .int .i64 (i : Nat)), (4, .int .i64 (stmts (l.take i) : Nat))]) (fun _ => [x.cells]) (fun _ => []) (fun i => l.length - i) 0 (by simp) (by simp [stmts]) [] rfl (by simp) ?_
  intro i nx g hi _ _
  simp
  refine split2_i (fun h3 => ?_) (fun h3 => ?_) <;> simp [h3]
  · simp at h3
    simp [h3]
    have hs := stmts_take h3
    have h4 : stmts (l.take (i + 1)) ≤ 10000000 := by have := stmts_le (l.take (i + 1)); simp at this; omega
    refine callP_i (statement_ok _) ?_
    simp
    cases h5 : (l[i]).stmt <;> simp [h5]
    · simp [h5] at hs
      exact againK_i (i + 1) g h3 (by omega) (by simp [wrap64_i h3 (show (l.length : Int) ≤ 9223372036854775807 by omega), hs]) rfl (by simp)
    · simp [h5] at hs
      have w : IntKind.i64.wrap ((stmts (l.take i) : Int) + 1) = ((stmts (l.take (i + 1)) : Nat) : Int) := by rw [wrap64_in (by omega) (by omega)]; omega
      exact againK_i (i + 1) g h3 (by omega) (by simp [wrap64_i h3 (show (l.length : Int) ≤ 9223372036854775807 by omega), w]) rfl (by simp)
  · simp at h3
    have : i = l.length := by omega
    subst this
    simp [hsc]
end Go.Proofs.AL
namespace Go.Proofs.AL
open Go Go.RowKit Go.Proofs.Try
set_option maxRecDepth 100000
set_option linter.unusedSimpArgs false
theorem scL_zero : ∀ {l : List Nd}, (∀ x ∈ l, x.sc = 0) → Nd.scL l = 0
  | [], _ => rfl
  | x :: l, h => by
    rw [Nd.scL, h x (List.mem_cons_self), scL_zero (fun y hy => h y (List.mem_cons_of_mem _ hy))]
theorem deadL_none : ∀ {l : List Nd} (up : Bool), (∀ x ∈ l, x.dead = none) → Nd.deadL false l up = none
  | [], _, _ => by simp [Nd.deadL]
  | x :: l, up, h => by
    simp [Nd.deadL, h x (List.mem_cons_self), deadL_none _ (fun y hy => h y (List.mem_cons_of_mem _ hy))]
theorem Nd.ex_facts {x : Nd} (h : Nd.Ex x) : x.sc = 0 ∧ x.reached = 0 ∧ x.dead = none := by
  induction h with
  | @mk k t y n f o a ta ks h1 h2 h3 ih =>
    have e1 : (k == 5) = false := by simp; omega
    refine ⟨?_, ?_, ?_⟩
    · have hs : (Nd.mk k t y n f o a ta ks).stmt = false := by
        have h0 : ¬ k ≤ 12 := by omega
        simp [Nd.stmt, h0]
      rw [Nd.sc, scL_zero (fun x hx => (ih x hx).1), hs]
      rfl
    · rw [Nd.reached, if_neg (by omega), if_pos (by omega)]
    · rw [Nd.dead_eq]
      simp only [kind_mk, kids_mk, e1]
      exact deadL_none _ (fun x hx => (ih x hx).2.2)
/-- As many are reached as there are, just if none is dead. -/
def Nd.fit (x : Nd) : Prop := ∃ r : Nat, x.reached = r ∧ r ≤ x.sc ∧ (x.dead = none → r = x.sc) ∧ (x.dead ≠ none → r < x.sc)
theorem fitL (b : Bool) : ∀ (l : List Nd), (∀ x ∈ l, x.fit) → (b = true → ∀ x ∈ l, 1 ≤ x.sc) → ∀ (up : Bool) (acc : Nat), acc + Nd.scL l ≤ 100000000 →
    ∃ r : Nat, Nd.reachKids b l up acc = r ∧ r ≤ acc + Nd.scL l ∧ (Nd.deadL b l up = none → r = acc + Nd.scL l) ∧ (Nd.deadL b l up ≠ none → r < acc + Nd.scL l)
  | [], _, _, up, acc, _ => ⟨acc, by simp [Nd.reachKids], by simp, by simp [Nd.scL], by simp [Nd.deadL]⟩
  | x :: l, hf, hb, up, acc, hs => by
    obtain ⟨q, q1, q2, q3, q4⟩ := hf x (List.mem_cons_self)
    rw [Nd.scL] at hs ⊢
    by_cases hd : (b && !up) = true
    · have h1 : 1 ≤ x.sc := hb (by simp at hd; exact hd.1) x (List.mem_cons_self)
      refine ⟨acc, by simp [Nd.reachKids, hd], by omega, ?_, fun _ => by omega⟩
      intro h
      simp [Nd.deadL, hd] at h
    · have hd' : (b && !up) = false := by simpa using hd
      obtain ⟨r, r1, r2, r3, r4⟩ := fitL b l (fun y hy => hf y (List.mem_cons_of_mem _ hy)) (fun e y hy => hb e y (List.mem_cons_of_mem _ hy)) (up && x.ends) (acc + q) (by omega)
      have w : IntKind.i64.wrap ((acc : Int) + q) = ((acc + q : Nat) : Int) := by rw [wrap64_in (by omega) (by omega)]; omega
      have e1 : Nd.reachKids b (x :: l) up acc = r := by
        rw [Nd.reachKids, hd', q1, w]
        exact r1
      refine ⟨r, e1, by omega, ?_, ?_⟩
      · intro h
        rw [Nd.deadL, hd'] at h
        cases hx : x.dead with
        | some d => simp [hx] at h
        | none =>
          have := r3 (by simpa [hx] using h)
          have := q3 hx
          omega
      · intro h
        rw [Nd.deadL, hd'] at h
        cases hx : x.dead with
        | some d =>
          have := q4 (by simp [hx])
          omega
        | none =>
          have := r4 (by simpa [hx] using h)
          have := q3 hx
          omega
theorem Nd.st_facts {l : List Tk} {x : Nd} (h : Nd.St l x) : x.count ≤ 10000000 → 1 ≤ x.sc ∧ x.fit := by
  induction h with
  | @mk k t y n f o a ta ks h1 h2 h3 h4 h5 h6 ih =>
    intro hc
    have hst : (Nd.mk k t y n f o a ta ks).stmt = true := by simp [Nd.stmt, h1, h2]
    have e : (Nd.mk k t y n f o a ta ks).sc = 1 + Nd.scL ks := by rw [Nd.sc, hst]; simp
    have hcl : Nd.scL ks ≤ Nd.countL ks := Nd.scL_le ks
    have hcc : (Nd.mk k t y n f o a ta ks).count = Nd.countL ks + 1 := by rw [Nd.count]
    have hck : ∀ x ∈ ks, x.count ≤ 10000000 := fun x hx => by
      obtain ⟨i, hi, rfl⟩ := List.mem_iff_getElem.1 hx
      have := Nd.count_get hi
      omega
    refine ⟨by omega, ?_⟩
    have hfit : ∀ x ∈ ks, x.fit := fun x hx => by
      by_cases hk : x.kind < 13
      · exact (ih x hx hk (hck x hx)).2
      · obtain ⟨a1, a2, a3⟩ := Nd.ex_facts (h3 x hx (by omega))
        exact ⟨0, by rw [a2]; rfl, by omega, fun _ => by omega, fun h => absurd a3 h⟩
    obtain ⟨r, r1, r2, r3, r4⟩ := fitL (k == 5) ks hfit (fun hk x hx => (ih x hx (h6 (by simpa using hk) x hx) (hck x hx)).1) true 1 (by omega)
    refine ⟨r, ?_, by omega, ?_, ?_⟩
    · rw [Nd.reached, if_neg (by omega), if_neg (by omega)]
      exact r1
    · intro h
      rw [Nd.dead_eq] at h
      have := r3 h
      omega
    · intro h
      rw [Nd.dead_eq] at h
      have := r4 h
      omega
theorem flowReached_ok (hw : Awake) (s : ByteArray) : ACall cx 6 [.str s] (.bool true) none := by
  refine ACall.wpl (C := cx) T.func_6 (by kernel_rfl) rfl (by rfl) (fun _ => ?_)
  simp [f6]
  refine callP_i hw ?_
  simp
  refine split2_i (fun h1 => ?_) (fun h1 => ?_) <;> simp [h1]
  refine callP_q (one2_ok s) ?_
  rintro _ ⟨n, c, f, a, rfl, hn⟩
  simp
  refine split2_i (fun h2 => ?_) (fun h2 => ?_) <;> simp [h2]
  have hcnt : n.count ≤ 10000000 := by
    rcases hn with rfl | ⟨l, hg, -, h⟩
    · decide
    · have := Tk.good_len hg
      omega
  have hfit : n.fit := by
    rcases hn with rfl | ⟨l, hg, h, -⟩
    · exact ⟨0, rfl, Nat.zero_le _, fun _ => rfl, fun h => absurd rfl h⟩
    · exact (Nd.st_facts h hcnt).2
  refine callP_i (dead_ok n) ?_
  simp [deadAV]
  refine callP_i (reached_ok n) ?_
  simp
  refine callP_i (statements_ok n hcnt) ?_
  simp
  refine ⟨by kernel_rfl, ?_⟩
  obtain ⟨r, r1, r2, r3, r4⟩ := hfit
  rw [r1]
  cases hd : n.dead with
  | none =>
    have := r3 hd
    simp [this]
  | some d =>
    have := r4 (by simp [hd])
    simp; omega
theorem flowChecks_ok (hw : Awake) (ts : List ByteArray) : ACall cx 4 [.sl 0 (strRows ts)] (.bool true) none := by
  refine ACall.wpl (C := cx) T.func_4 (by kernel_rfl) rfl (by rfl) (fun _ => ?_)
  simp [f4]
  refine callP_i hw ?_
  simp
  by_cases h0 : 6 < ts.length
  · have c1 : (6 : Int) < ts.length := by omega
    simp [c1]
  have c1 : ¬ (6 : Int) < ts.length := by omega
  simp [c1]
  refine loopK [0] (fun (p : Nat × Nat × List (List Nd)) nx => p.1 ≤ ts.length ∧ p.2.1 < nx ∧ (p.2.1 = 1 ∧ p.2.2 = [] ∨ 3 ≤ p.2.1) ∧ p.2.2.length = p.1) (fun p => [(5, .int .i64 (p.1 : Nat)), (4, .sl p.2.1 (fileRows p.2.2))]) (fun _ => []) (fun p => if p.2.1 = 1 then [] else [(p.2.1, 22)]) (fun p => ts.length - p.1) (0, 1, []) (by simp) (by simp [fileRows]) [] rfl (by simp) ?_
  rintro ⟨i, tk, fs⟩ nx g ⟨hi, htk, hk, hfl⟩ h3 -
  dsimp only at hi htk hk hfl
  have hlv : tk = 1 ∨ tk = 2 ∨ ¬tk = 0 ∧ ¬tk = 2 ∧ look (if tk = 1 then [] else [(tk, 22)]) tk = some 22 := by
    rcases hk with ⟨h, -⟩ | h
    · exact .inl h
    · have : ¬ tk = 1 := by omega
      exact .inr (.inr ⟨by omega, by omega, by simp [this]⟩)
  have hnx : ¬ nx = 1 := by omega
  simp
  refine split2_i (fun h1 => ?_) (fun h1 => ?_) <;> simp [h1]
  · simp at h1
    simp [h1]
    refine split2_i (fun h2 => ?_) (fun h2 => ?_) <;> simp [h2, h1]
    refine callP_q (file_ok _) ?_
    rintro _ ⟨ks, c, f, a, rfl, -⟩
    simp
    have hrow : fileRows fs ++ [[AV.sl 0 (Nd.rows ks)]] = fileRows (fs ++ [ks]) := by simp [fileRows]
    refine ⟨⟨by omega, hlv⟩, ?_⟩
    rw [hrow]
    exact againK_i (i + 1, nx, fs ++ [ks]) (g ++ [[.int .i64 c, .int .i64 f, .int .i64 a]]) ⟨h1, by simp, .inr h3, by simp [hfl]⟩ (by dsimp only; omega) (by simp [wrap64_i h1 (show (ts.length : Int) ≤ 9223372036854775807 by omega)]) (by simp) (by simp [hnx])
  · refine callP_i (check_ok fs) ?_
    simp
    refine callP_i (refCheck_ok fs) ?_
    cases chkF fs 0 with
    | none => simp [chkAV]
    | some q => simp [chkAV]
end Go.Proofs.AL
namespace Go.Proofs.AL
open Go Go.RowKit Go.Proofs.Ytknabihpplaheaa
set_option linter.unusedVariables false
set_option linter.unusedSimpArgs false
/-! ## What a law's argument reads as -/
/-- All cells of a block. -/
def mAll (w : World) : Nat → Nat := fun b => match w.heap[b]? with
  | some (.cells c _ _) => c.size
  | _ => 0
theorem mAll_end (w : World) (b : Nat) (h : w.heap.size ≤ b) : mAll w b = 0 := by
  unfold mAll
  rw [Array.getElem?_eq_none h]
theorem mAll_cell {w : World} {b o : Nat} {v : Value} (h : w.cell? ⟨b, o, none⟩ = some v) : o < mAll w b := by
  unfold World.cell? at h
  unfold mAll
  cases hb : w.heap[b]? with
  | none => rw [hb] at h; cases h
  | some ob =>
    rw [hb] at h
    cases ob with
    | cells c T q => exact (Array.getElem?_eq_some_iff.1 h).1
    | _ => cases h
theorem spot_none {w : World} {a : Addr} {v : Value} (h : w.cell? a = some v) : a.spot = none := by
  unfold World.cell? at h
  split at h
  · split at h
    · cases h
    · rename_i hs
      cases hsp : a.spot with
      | none => rfl
      | some _ => rw [hsp] at hs; exact absurd rfl hs
  · cases h
/-- Whatever reads as data of type t is a value with these cells, of a size that the datum tells, and as the reach allows. -/
def ToldAt {α : Type} (P : Program) (t : TypeId) (cells : α → List AV) (sz : α → Nat) (ok : α → Prop) (fuel : Nat) : Prop :=
  ∀ {H : Type} {enc : TypeId × Value → H} {w : World} {held : Bool} {cs : List Value} {z : DataW H × List MemPlace},
    DataW.trod enc P w 0 (fun _ => true) held fuel t cs = some z → (∀ q ∈ DataW.weights P t z.1, q ≤ 140737488351232) → ∃ x, VL (gh1 (mAll w)) w (cells x) cs ∧ ok x ∧ sz x ≤ Rows.uptoBulk z.1
def Told {α : Type} (P : Program) (t : TypeId) (cells : α → List AV) (sz : α → Nat) (ok : α → Prop) : Prop := ∀ fuel, ToldAt P t cells sz ok fuel
theorem mapM_get {α β : Type} {f : α → Option β} : ∀ {l : List α} {xs : List β}, l.mapM f = some xs → xs.length = l.length ∧ ∀ (i : Nat) (a : α), l[i]? = some a → f a = xs[i]? := by
  intro l
  induction l with
  | nil => intro xs h; rw [List.mapM_nil] at h; cases h; exact ⟨rfl, fun i a hi => by simp at hi⟩
  | cons b l ih =>
    intro xs h
    rw [List.mapM_cons] at h
    cases hy : f b with
    | none => rw [hy] at h; cases h
    | some y =>
      rw [hy] at h
      cases hys : l.mapM f with
      | none => rw [hys] at h; cases h
      | some ys =>
        rw [hys] at h
        cases h
        obtain ⟨hl, hg⟩ := ih hys
        refine ⟨by rw [List.length_cons, List.length_cons, hl], fun i a hi => ?_⟩
        cases i with
        | zero => rw [List.getElem?_cons_zero] at hi ⊢; injection hi with hi; subst hi; exact hy
        | succ i => rw [List.getElem?_cons_succ] at hi ⊢; exact hg i a hi
theorem cells_at {w : World} {base : Nat} {a : Addr} {n : Nat} {cs : List Value} (h : w.cells? base a n = some cs) : cs.length = n ∧ ∀ i u, cs[i]? = some u → w.cell? (a.add i) = some u := by
  unfold World.cells? at h
  split at h
  · obtain ⟨hl, hg⟩ := mapM_get h
    rw [List.length_range] at hl
    refine ⟨hl, fun i u hi => ?_⟩
    have hlt : i < n := by
      rcases Nat.lt_or_ge i n with h1 | h1
      · exact h1
      · rw [List.getElem?_eq_none (by omega)] at hi; cases hi
    rw [hg i i (by rw [List.getElem?_range hlt])]; exact hi
  · cases h
theorem bulk_one {H : Type} (d : DataW H) : 1 ≤ Rows.uptoBulk d := by
  cases d with
  | lit l => cases l <;> simp [Rows.uptoBulk]
  | nil => simp [Rows.uptoBulk]
  | ptr d => simp [Rows.uptoBulk]
  | slice elems spare => simp [Rows.uptoBulk]
  | agg parts => simp [Rows.uptoBulk]
  | iface u d => simp [Rows.uptoBulk]
  | map entries => simp [Rows.uptoBulk]
  | held t => simp [Rows.uptoBulk]
theorem told_int {P : Program} {t : TypeId} {k : IntKind} (hu : P.underlying t = some (.int k)) : Told P t (fun x : Int => [.int k x]) (fun _ => 1) (fun x => (Lit.int k x).wf = true) := by
  intro fuel H enc w held cs z h _
  obtain ⟨n, rfl, rfl, hw⟩ := DataW.trod_int hu h
  exact ⟨n, .cons (.int k n) rfl .nil, hw, bulk_one _⟩
theorem told_bool {P : Program} {t : TypeId} (hu : P.underlying t = some .bool) : Told P t (fun x : Bool => [.bool x]) (fun _ => 1) (fun _ => True) := by
  intro fuel H enc w held cs z h _
  obtain ⟨n, rfl, rfl⟩ := DataW.trod_bool hu h
  exact ⟨n, .cons (.bool n) rfl .nil, trivial, bulk_one _⟩
theorem told_string {P : Program} {t : TypeId} (hu : P.underlying t = some .string) : Told P t (fun s : ByteArray => [.str s]) (fun s => s.size + 1) (fun s => s.size ≤ 140737488351232) := by
  intro fuel H enc w held cs z h hq
  obtain ⟨s, rfl, rfl, hs⟩ := DataW.trod_string hu h
  refine ⟨s, .cons (.str s) rfl .nil, ?_, ?_⟩
  · have := hq s.data.toList.length (by simp [DataW.weights])
    simpa using this
  · simp [Rows.uptoBulk]
def sumOf {α : Type} (sz : α → Nat) : List α → Nat
  | [] => 0
  | x :: l => sz x + sumOf sz l
theorem sumOf_le {α : Type} (sz : α → Nat) {l : List α} {x : α} (h : x ∈ l) : sz x ≤ sumOf sz l := by
  induction l with
  | nil => cases h
  | cons y l ih =>
    rw [sumOf]
    cases h with
    | head => exact Nat.le_add_right _ _
    | tail _ h => exact Nat.le_trans (ih h) (Nat.le_add_left _ _)
theorem rows_told {α : Type} {P : Program} {e : TypeId} {cells : α → List AV} {sz : α → Nat} {ok : α → Prop} {n : Nat} (ht : ToldAt P e cells sz ok n) {H : Type} {enc : TypeId × Value → H} {w : World} {held : Bool} (get : Nat → Option (List Value)) :
    ∀ (elems : List (DataW H × List MemPlace)) (k : Nat), (∀ i, i < elems.length → (get (k + i)).bind (DataW.trod enc P w 0 (fun _ => true) held n e) = elems[i]?) → (∀ q ∈ DataW.weightsAll P e (elems.map (·.1)), q ≤ 140737488351232) →
    ∃ l : List α, l.length = elems.length ∧ (∀ i x, l[i]? = some x → ∃ cs, get (k + i) = some cs ∧ VL (gh1 (mAll w)) w (cells x) cs) ∧ (∀ x ∈ l, ok x) ∧ sumOf sz l ≤ Rows.uptoBulkAll (elems.map (·.1)) := by
  intro elems
  induction elems with
  | nil => intro k _ _; exact ⟨[], rfl, (fun i x hi => (by simp at hi)), (fun x hx => (by cases hx)), Nat.zero_le _⟩
  | cons y elems ih =>
    intro k h hq
    rw [List.map_cons, DataW.weightsAll] at hq
    have h0 := h 0 (by simp)
    rw [List.getElem?_cons_zero, Nat.add_zero] at h0
    cases hc : get k with
    | none => rw [hc] at h0; cases h0
    | some cs =>
      rw [hc] at h0
      obtain ⟨x, hx, hox, hsx⟩ := ht h0 (fun q hm => hq q (List.mem_append_left _ hm))
      obtain ⟨l, hl, hg, ho, hs⟩ := ih (k + 1) (fun i hi => by
        have := h (i + 1) (by rw [List.length_cons]; omega)
        rw [List.getElem?_cons_succ] at this
        rw [← this, show k + 1 + i = k + (i + 1) by omega]) (fun q hm => hq q (List.mem_append_right _ hm))
      refine ⟨x :: l, by rw [List.length_cons, List.length_cons, hl], fun i u hi => ?_, fun u hu => ?_, ?_⟩
      · cases i with
        | zero => rw [List.getElem?_cons_zero] at hi; injection hi with hi; subst hi; exact ⟨cs, hc, hx⟩
        | succ i => rw [List.getElem?_cons_succ] at hi; obtain ⟨c, h1, h2⟩ := hg i u hi; exact ⟨c, by rw [show k + (i + 1) = k + 1 + i by omega]; exact h1, h2⟩
      · cases hu with
        | head => exact hox
        | tail _ hu => exact ho u hu
      · rw [sumOf, List.map_cons, Rows.uptoBulkAll]; omega
/-- A slice: c: how many cells an element has; B: how many bytes. -/
theorem told_slice_at {α : Type} {P : Program} {t e : TypeId} {cells : α → List AV} {sz : α → Nat} {ok : α → Prop} (c B : Nat) (hc0 : 0 < c) (hu : P.underlying t = some (.slice e)) (hc : P.cellsOf e = c) (hb : P.bytesOf e = B) (hcl : ∀ x, (cells x).length = c) (fuel : Nat) (he : ∀ n, n < fuel → ToldAt P e cells sz ok n) :
    ToldAt P t (fun l : List α => [.sl 0 (l.map cells)]) (fun l => sumOf sz l + 1) (fun l => l.length * B ≤ 140737488351232 ∧ ∀ x ∈ l, ok x) fuel := by
  intro H enc w held cs z h hq
  rcases DataW.trod_slice hu h with ⟨rfl, rfl⟩ | ⟨a, len, cap, elems, rest, n, rfl, rfl, rfl, _, hlc, hcm, hlen, hel, _, _⟩
  · exact ⟨[], .cons (.sl0 (.inl rfl)) rfl .nil, ⟨by simp, (fun x hx => (by cases hx))⟩, bulk_one _⟩
  · simp only [DataW.weights, hu] at hq
    obtain ⟨l, hl, hg, ho, hs⟩ := rows_told (he n (Nat.lt_succ_self n)) (H := H) (enc := enc) (w := w) (held := held) (fun i => w.cells? 0 (a.add (i * P.cellsOf e)) (P.cellsOf e)) elems 0
      (fun i hi => by rw [Nat.zero_add]; exact hel i (by omega)) (fun q hm => hq q (List.mem_cons_of_mem _ (List.mem_append_left _ hm)))
    have hll : l.length = len := by omega
    refine ⟨l, .cons ?_ rfl .nil, ⟨?_, ho⟩, ?_⟩
    · rcases Nat.eq_zero_or_pos l.length with h0 | h0
      · have hnil : l = [] := List.eq_nil_of_length_eq_zero h0
        subst hnil
        have : len = 0 := by omega
        subst this
        exact .sl0 (.inl rfl)
      · have key : ∀ (j i : Nat) (el : List AV) (x : AV), (l.map cells)[j]? = some el → el[i]? = some x → ∃ u, w.cell? ⟨a.block, a.off + (j * c + i), none⟩ = some u ∧ u.oneCell' = true ∧ V (gh1 (mAll w)) w x u ∧ a.spot = none := by
          intro j i el x hj hi
          rw [List.getElem?_map] at hj
          obtain ⟨p, hp, rfl⟩ := Option.map_eq_some_iff.1 hj
          obtain ⟨cs, h1, h2⟩ := hg j p hp
          rw [Nat.zero_add] at h1
          obtain ⟨g1, g2⟩ := cells_at h1
          have hil : i < cs.length := by have := (List.getElem?_eq_some_iff.1 hi).1; rw [h2.1] at this; exact this
          obtain ⟨v1, v2⟩ := h2.2 i x cs[i] hi (List.getElem?_eq_getElem hil)
          have hcell := g2 i cs[i] (List.getElem?_eq_getElem hil)
          rw [hc, Addr.add_add] at hcell
          have hsp := spot_none hcell
          by_cases h00 : j * c + i = 0
          · have e0 : a.add (j * c + i) = a := by unfold Addr.add; rw [if_pos h00]
            rw [e0] at hcell hsp
            have ea : (⟨a.block, a.off + (j * c + i), none⟩ : Addr) = a := by rw [h00, Nat.add_zero, ← hsp]
            exact ⟨_, by rw [ea]; exact hcell, v2, v1, hsp⟩
          · have e0 : a.add (j * c + i) = ⟨a.block, a.off + (j * c + i), none⟩ := by unfold Addr.add; rw [if_neg h00]
            rw [e0] at hcell
            have h0' : 0 < l.length := h0
            -- the row's own place: of its first cell
            have hp0 : l[0]? = some l[0] := List.getElem?_eq_getElem h0'
            obtain ⟨cs0, k1, k2⟩ := hg 0 _ hp0
            obtain ⟨q1, q2⟩ := cells_at k1
            have hl0 : 0 < cs0.length := by rw [q1, hc]; exact hc0
            have hz := q2 0 _ (List.getElem?_eq_getElem hl0)
            have ez : (a.add ((0 + 0) * P.cellsOf e)).add 0 = a := by unfold Addr.add; simp
            rw [ez] at hz
            exact ⟨_, hcell, v2, v1, spot_none hz⟩
        have hsp : a.spot = none := by
          have hel0 : (l.map cells)[0]? = some (cells l[0]) := by rw [List.getElem?_map, List.getElem?_eq_getElem h0]; rfl
          have hc1 : 0 < (cells l[0]).length := by rw [hcl]; exact hc0
          obtain ⟨_, _, _, _, h4⟩ := key 0 0 _ _ hel0 (List.getElem?_eq_getElem hc1)
          exact h4
        have ea : a = ⟨a.block, a.off, none⟩ := by cases a; simp at hsp; subst hsp; rfl
        rw [ea]
        refine .sl (sz := c) (fun j i => (w.cell? ⟨a.block, a.off + (j * c + i), none⟩).getD undef) (by omega) (by simp; omega) hlc hcm hc0 (fun el hel => ?_) (.inl rfl) (fun j i el x hj hi => ?_) (fun j i el x hj hi => ?_)
        · obtain ⟨p, _, rfl⟩ := List.mem_map.1 hel
          exact hcl p
        · obtain ⟨u, h1, h2, h3, _⟩ := key j i el x hj hi
          exact ⟨mAll_cell h1, by rw [h1]; rfl, by rw [h1]; exact h2⟩
        · obtain ⟨u, h1, h2, h3, _⟩ := key j i el x hj hi
          rw [h1]; exact h3
    · have := hq ((elems.length + rest.length) * P.bytesOf e) (by simp)
      rw [hb] at this
      rw [hl]
      exact Nat.le_trans (Nat.mul_le_mul_right _ (Nat.le_add_right _ _)) this
    · simp only [Rows.uptoBulk]; omega
theorem told_slice {α : Type} {P : Program} {t e : TypeId} {cells : α → List AV} {sz : α → Nat} {ok : α → Prop} (c B : Nat) (hc0 : 0 < c) (hu : P.underlying t = some (.slice e)) (hc : P.cellsOf e = c) (hb : P.bytesOf e = B) (hcl : ∀ x, (cells x).length = c) (he : Told P e cells sz ok) :
    Told P t (fun l : List α => [.sl 0 (l.map cells)]) (fun l => sumOf sz l + 1) (fun l => l.length * B ≤ 140737488351232 ∧ ∀ x ∈ l, ok x) := fun fuel => told_slice_at c B hc0 hu hc hb hcl fuel (fun n _ => he n)
theorem ToldAt.map {α β : Type} {P : Program} {t : TypeId} {cells : α → List AV} {sz : α → Nat} {ok : α → Prop} {fuel : Nat} (h : ToldAt P t cells sz ok fuel) {cells' : β → List AV} {sz' : β → Nat} {ok' : β → Prop} (f : α → β) (h1 : ∀ x, cells' (f x) = cells x) (h2 : ∀ x, sz' (f x) ≤ sz x) (h3 : ∀ x, ok x → ok' (f x)) : ToldAt P t cells' sz' ok' fuel := by
  intro H enc w held cs z h' hq
  obtain ⟨x, a, b, c⟩ := h h' hq
  exact ⟨f x, by rw [h1]; exact a, h3 x b, Nat.le_trans (h2 x) c⟩
/-- A field's part of a struct's cells. -/
theorem told_field {α : Type} {P : Program} {t : TypeId} {cells : α → List AV} {sz : α → Nat} {ok : α → Prop} {n : Nat} (ht : ToldAt P t cells sz ok n) {H : Type} {enc : TypeId × Value → H} {w : World} {held : Bool} {cs : List Value} {off k : Nat} {y : DataW H × List MemPlace} (hk : P.cellsOf t = k)
    (h : DataW.trod enc P w 0 (fun _ => true) held n t ((cs.drop off).take (P.cellsOf t)) = some y) (hq : ∀ q ∈ DataW.weights P t y.1, q ≤ 140737488351232) : ∃ x, VL (gh1 (mAll w)) w (cells x) ((cs.drop off).take k) ∧ ok x ∧ sz x ≤ Rows.uptoBulk y.1 := by
  rw [hk] at h
  exact ht h hq
/-- An argument, by its reading and its weights. -/
theorem told_arg {α : Type} {P : Program} {t : TypeId} {cells : α → List AV} {sz : α → Nat} {ok : α → Prop} (ht : Told P t cells sz ok) {H : Type} {enc : TypeId × Value → H} {w : World} {held : Bool} {ts : List TypeId} {ds : List (DataW H)} {j : Nat} {v : Value} {z : DataW H} {ps : List MemPlace}
    (h : DataW.Trod enc P w 0 (fun _ => true) held t v z ps) (hsz : (DataW.weightsEach P ts ds).all (· ≤ reachBytes) = true) (hj : ts[j]? = some t) (hd : ds[j]? = some z) : ∃ x, VL (gh1 (mAll w)) w (cells x) v.cells.toList ∧ ok x ∧ sz x ≤ Rows.uptoBulk z := by
  obtain ⟨fuel, hf⟩ := h
  obtain ⟨x, h1, h2, h3⟩ := ht fuel hf (fun q hq => by
    have := List.all_eq_true.1 hsz q (DataW.weights_mem_each hj hd q hq)
    exact of_decide_eq_true this)
  exact ⟨x, h1, h2, h3⟩
theorem vl_one {G : Gh} {w : World} {x : AV} {v : Value} (h : VL G w [x] v.cells.toList) (hn : ∀ cs, v ≠ .agg cs) : V G w x v := by
  cases v with
  | agg cs => exact absurd rfl (hn cs)
  | _ => exact (h.2 0 _ _ rfl rfl).1
theorem vl_struct {G : Gh} {w : World} {xs : List AV} {v : Value} (h : VL G w xs v.cells.toList) (hn : xs.length ≠ 1) : V G w (.agg xs) v := by
  cases v with
  | agg cs => exact VL.agg h
  | _ => exact absurd h.1 hn
theorem vl_agg {G : Gh} {w : World} {xs : List AV} {cs : Array Value} (h : VL G w xs (Value.agg cs).cells.toList) : V G w (.agg xs) (.agg cs) := VL.agg h
/-- The law's call: true, and what there was is as it was. -/
theorem law_calls {C : Cx} {f : FuncId} {args : List AV} (h : ACall C f args (.bool true) none) {W : World} {vs : Array Value} (hgi : C.GI W) (hl : vs.size = args.length) (hV : ∀ (i : Nat) (x : AV) (v : Value), args[i]? = some x → vs[i]? = some v → V (gh1 (mAll W)) W x v) :
    Calls C.P f vs W fun e w' => e = .returned (.bool true) ∧ Below W.heap.size W w' :=
  (h.2 (mAll W) W vs hgi (fun b hb => mAll_end W b hb) hl hV).mono (fun e w' ⟨v, m', he, hb, _, _, hv, _⟩ => ⟨by rw [he]; cases hv; rfl, hb⟩)
end Go.Proofs.AL
