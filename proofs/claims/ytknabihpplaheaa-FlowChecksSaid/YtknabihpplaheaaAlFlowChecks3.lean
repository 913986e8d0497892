/- What the functions that the law FlowChecks reaches compute, and the law (part 3). -/
import Derived.Test.YtknabihpplaheaaAlFlowChecks2
namespace Go.Proofs.AL
open Go Go.RowKit Go.Proofs.Try
set_option maxRecDepth 100000
set_option linter.unusedSimpArgs false
theorem Nd.len_countL : ∀ l : List Nd, l.length ≤ Nd.countL l
  | [] => by simp
  | x :: l => by
    have := Nd.len_countL l
    simp [Nd.countL, Nd.count_eq x]; omega
set_option maxHeartbeats 8000000 in
theorem unary_ok {s : ByteArray} {l : List Tk} (hg : Tk.good s l) (P : Nd → Prop) (hP : ExP P) (a : Nat) (d : Int) (ha : a < l.length)
    (hu : ∀ b d, a < b → b < l.length → ACallQ cx 59 [.sl 0 (Tk.rows l), .int .i64 (b : Nat), .int .i64 d] (ruleQ P l b) none)
    (hp : ∀ d, ACallQ cx 61 [.sl 0 (Tk.rows l), .int .i64 (a : Nat), .int .i64 d] (ruleQ P l a) none)
    (he : ∀ b d, a < b → b < l.length → ACallQ cx 35 [.sl 0 (Tk.rows l), .int .i64 (b : Nat), .int .i64 d] (ruleQ P l b) none) : ACallQ cx 59 [.sl 0 (Tk.rows l), .int .i64 (a : Nat), .int .i64 d] (ruleQ P l a) none := by
  refine ACallQ.wpl (C := cx) T.func_59 (by kernel_rfl) rfl (by rfl) (fun _ => ?_)
  have hl : l.length ≤ 10000000 := by have := Tk.good_len hg; omega
  have w1 : IntKind.i64.wrap ((a : Int) + 1) = ((a + 1 : Nat) : Int) := by rw [wrap64_in (by omega) (by omega)]; omega
  simp [f59]
  refine split2_i (fun e1 => ?_) (fun e1 => ?_) <;> simp [e1, pu]
  · exact rule_bad default 0 (by omega)
  refine callP_i (is_ok _ _ _) ?_
  simp
  cases e2 : isV l a ⟨#[33]⟩ <;> simp [e2, pu]
  · refine callP_i (is_ok _ _ _) ?_
    simp
    cases e3 : isV l a ⟨#[45]⟩ <;> simp [e3, pu]
    · refine callP_q (hp _) ?_
      rintro _ ⟨n, b, w, e, rfl, hw⟩
      simp
      refine split2_i (fun e4 => ?_) (fun e4 => ?_) <;> simp [e4, pu]
      · exact ⟨by kernel_rfl, rule_bad default 0 (by simp at e4; omega)⟩
      obtain ⟨hPn, hb1, hb2, hb3⟩ := hw (by simp at e4; omega)
      refine loopK [0, 1, 2, 6, 8, 13, 15] (fun (p : Nd × Nat) _ => P p.1 ∧ a < p.2 ∧ p.2 < l.length ∧ p.1.count + a ≤ p.2) (fun p => [(14, .int .i64 (p.2 : Nat))]) (fun p => [[.int .i64 0, .str .empty, .str .empty, .int .i64 0, .int .i64 0, .int .i64 0, .int .i64 0, .int .i64 0, .sl 1 []], [.int .i64 0, .int .i64 0], p.1.cells, [.int .i64 w, .int .i64 e]]) (fun _ => []) (fun p => l.length - p.2) (n, b) ⟨hPn, hb1, hb2, hb3⟩ (by simp) [] rfl (by simp) ?_
      clear hPn hb1 hb2 hb3 hw e4
      rintro ⟨n, b⟩ nx g ⟨hPn, hb1, hb2, hb3⟩ h3 -
      dsimp only at hPn hb1 hb2 hb3
      have wb : IntKind.i64.wrap ((b : Int) + 1) = ((b + 1 : Nat) : Int) := by rw [wrap64_in (by omega) (by omega)]; omega
      have wb2 : IntKind.i64.wrap ((b : Int) + 1 + 1) = ((b + 2 : Nat) : Int) := by rw [wrap64_in (by omega) (by omega)]; omega
      have wb3 : IntKind.i64.wrap ((b : Int) + 2 + 1) = ((b + 3 : Nat) : Int) := by rw [wrap64_in (by omega) (by omega)]; omega
      simp
      refine callP_i (is_ok _ _ _) ?_
      simp
      cases e4 : isV l b ⟨#[46]⟩ <;> simp [e4, pu]
      · refine callP_i fine_ok ?_
        simp
        exact ⟨by kernel_rfl, rule_good n b hPn hb1 hb2 hb3⟩
      have k1 := isV_lt hg e4
      rw [wb]
      refine callP_i (name_ok _ _) ?_
      simp
      cases e5 : nameV l (b + 1) <;> simp [e5, pu]
      · rw [wb]
        refine callP_i (syntax_ok _) ?_
        simp
        exact rule_bad default 0 (by omega)
      have k2 := nameV_lt hg e5
      have c1 : 0 ≤ (b : Int) + 1 := by omega
      have c2 : (b : Int) + 1 < l.length := by omega
      simp [wb]
      rw [wb2]
      refine callP_i (is_ok _ _ _) ?_
      simp
      cases e6 : isV l (b + 2) ⟨#[40]⟩ <;> simp [e6, pu]
      · refine callP_i (made_ok l 18 a (b + 2) [n] ha (by omega) (by omega) (by omega)) ?_
        simp only [Nd.cells]
        simp [ha, wb, c1, c2, -Nd.fold, -Nd.fold0, -Nd.fold1]
        exact againK_i (.mk 18 (l[b + 1]?.getD default).text .empty 0 l[a].at_ (endV l (b + 2)) (l[b + 1]?.getD default).at_ (-1) [n], b + 2) g ⟨hP _ _ _ _ _ _ _ _ _ (by decide) (by decide) (by simp [hPn]), by dsimp only; omega, k2, by simp [Nd.count, countL_one]; omega⟩ (by dsimp only; omega) (by simp) (by rfl) (by simp)
      have k3 := isV_lt hg e6
      rw [wb3]
      refine callP_q (arguments_ok hg hl P (b + 3) (IntKind.i64.wrap (d + 1)) k3 (fun c hc1 hc2 => he c _ (by omega) hc2)) ?_
      rintro _ ⟨ks, c, w', e', rfl, hw'⟩
      simp
      refine split2_i (fun e7 => ?_) (fun e7 => ?_) <;> simp [e7, pu]
      · exact ⟨by kernel_rfl, rule_bad default 0 (by simp at e7; omega)⟩
      obtain ⟨hPk, hc1, hc2, hc3⟩ := hw' (by simp at e7; omega)
      by_cases hk : ks = []
      · subst hk
        simp
        refine callP_i (made_ok l 20 a c [n] ha (by omega) (by omega) (by omega)) ?_
        simp only [Nd.cells]
        simp [ha, wb, c1, c2, -Nd.fold, -Nd.fold0, -Nd.fold1]
        exact againK_i (.mk 20 (l[b + 1]?.getD default).text .empty 0 l[a].at_ (endV l c) (l[b + 1]?.getD default).at_ (-1) [n], c) (g ++ [[.int .i64 w', .int .i64 e']]) ⟨hP _ _ _ _ _ _ _ _ _ (by decide) (by decide) (by simp [hPn]), by dsimp only; omega, hc2, by simp [Nd.count, countL_one]; omega⟩ (by dsimp only; omega) (by simp) (by rfl) (by simp)
      have hk' : Nd.rows ks ≠ [] := by simpa using hk
      simp [hk]
      have hkl := Nd.len_countL ks
      refine ⟨by omega, ?_⟩
      have hrow : n.cells :: Nd.rows ks = Nd.rows (n :: ks) := rfl
      rw [hrow]
      refine callP_i (made_ok l 20 a c (n :: ks) ha (by omega) (by omega) (by omega)) ?_
      simp only [Nd.cells]
      simp [ha, wb, c1, c2, -Nd.fold, -Nd.fold0, -Nd.fold1]
      exact againK_i (.mk 20 (l[b + 1]?.getD default).text .empty 0 l[a].at_ (endV l c) (l[b + 1]?.getD default).at_ (-1) (n :: ks), c) (g ++ [[.int .i64 w', .int .i64 e']]) ⟨hP _ _ _ _ _ _ _ _ _ (by decide) (by decide) (by simpa [hPn] using hPk), by dsimp only; omega, hc2, by simp [Nd.count, Nd.countL]; omega⟩ (by dsimp only; omega) (by simp) (by rfl) (by simp)
    · rw [w1]
      refine callP_q (hu (a + 1) _ (by omega) (isV_lt hg e3)) ?_
      rintro _ ⟨n, b, w, e, rfl, hw⟩
      simp
      refine split2_i (fun e4 => ?_) (fun e4 => ?_) <;> simp [e4, pu]
      · exact ⟨by kernel_rfl, rule_bad default 0 (by simp at e4; omega)⟩
      obtain ⟨hPn, hb1, hb2, hb3⟩ := hw (by simp at e4; omega)
      simp [ha]
      refine split2_i (fun e5 => ?_) (fun e5 => ?_) <;> simp [e5, pu]
      · refine callP_i (made_ok l 23 a b [n] ha (by omega) (by omega) (by omega)) ?_
        simp
        refine callP_i fine_ok ?_
        simp
        exact rule_node hP 23 _ _ _ _ _ _ _ [n] b (by decide) (by decide) (by simp [hPn]) (by omega) hb2 (by simp [countL_one]; omega)
      · refine callP_i (made_ok l 22 a b [n] ha (by omega) (by omega) (by omega)) ?_
        simp
        refine callP_i fine_ok ?_
        simp
        exact rule_node hP 22 _ _ _ _ _ _ _ [n] b (by decide) (by decide) (by simp [hPn]) (by omega) hb2 (by simp [countL_one]; omega)
  · rw [w1]
    refine callP_q (hu (a + 1) _ (by omega) (isV_lt hg e2)) ?_
    rintro _ ⟨n, b, w, e, rfl, hw⟩
    simp
    refine split2_i (fun e4 => ?_) (fun e4 => ?_) <;> simp [e4, pu]
    · exact ⟨by kernel_rfl, rule_bad default 0 (by simp at e4; omega)⟩
    obtain ⟨hPn, hb1, hb2, hb3⟩ := hw (by simp at e4; omega)
    simp [ha]
    refine split2_i (fun e5 => ?_) (fun e5 => ?_) <;> simp [e5, pu]
    · refine callP_i (made_ok l 23 a b [n] ha (by omega) (by omega) (by omega)) ?_
      simp
      refine callP_i fine_ok ?_
      simp
      exact rule_node hP 23 _ _ _ _ _ _ _ [n] b (by decide) (by decide) (by simp [hPn]) (by omega) hb2 (by simp [countL_one]; omega)
    · refine callP_i (made_ok l 22 a b [n] ha (by omega) (by omega) (by omega)) ?_
      simp
      refine callP_i fine_ok ?_
      simp
      exact rule_node hP 22 _ _ _ _ _ _ _ [n] b (by decide) (by decide) (by simp [hPn]) (by omega) hb2 (by simp [countL_one]; omega)
end Go.Proofs.AL
namespace Go.Proofs.AL
open Go Go.RowKit Go.Proofs.Try
set_option maxRecDepth 100000
set_option linter.unusedSimpArgs false
theorem expr_all {s : ByteArray} {l : List Tk} (hg : Tk.good s l) (P : Nd → Prop) (hP : ExP P) : ∀ (m a : Nat) (d : Int), a < l.length → l.length - a ≤ m →
    ACallQ cx 59 [.sl 0 (Tk.rows l), .int .i64 (a : Nat), .int .i64 d] (ruleQ P l a) none ∧
    ∀ k : Nat, 1 ≤ k → k ≤ 7 → ACallQ cx 51 [.sl 0 (Tk.rows l), .int .i64 (a : Nat), .int .i64 d, .int .i64 (k : Nat)] (ruleQ P l a) none := by
  have hl : l.length ≤ 10000000 := by have := Tk.good_len hg; omega
  intro m
  induction m with
  | zero => intro a d h1 h2; omega
  | succ m ih =>
    intro a d h1 h2
    have he : ∀ b d, a < b → b < l.length → ACallQ cx 35 [.sl 0 (Tk.rows l), .int .i64 (b : Nat), .int .i64 d] (ruleQ P l b) none :=
      fun b d hb1 hb2 => expression_ok P b d ((ih b d hb2 (by omega)).2 1 (by decide) (by decide))
    have hu : ACallQ cx 59 [.sl 0 (Tk.rows l), .int .i64 (a : Nat), .int .i64 d] (ruleQ P l a) none :=
      unary_ok hg P hP a d h1 (fun b d hb1 hb2 => (ih b d hb2 (by omega)).1) (fun d => primary_ok hg P hP a d h1 (fun b hb1 hb2 => he b d hb1 hb2)) he
    refine ⟨hu, ?_⟩
    have lev : ∀ j k : Nat, 7 - k = j → 1 ≤ k → k ≤ 7 → ACallQ cx 51 [.sl 0 (Tk.rows l), .int .i64 (a : Nat), .int .i64 d, .int .i64 (k : Nat)] (ruleQ P l a) none := by
      intro j
      induction j with
      | zero => intro k hj hk1 hk2; exact level_ok hg hl P hP a d k hk1 hk2 h1 hu (fun b hb1 hb2 hk => by omega)
      | succ j ihj =>
        intro k hj hk1 hk2
        refine level_ok hg hl P hP a d k hk1 hk2 h1 hu (fun b hb1 hb2 hk => ?_)
        rcases Nat.eq_or_lt_of_le hb1 with e | e
        · subst e
          exact ihj (k + 1) (by omega) (by omega) (by omega)
        · exact (ih b d hb2 (by omega)).2 (k + 1) (by omega) (by omega)
    exact fun k hk1 hk2 => lev _ k rfl hk1 hk2
/-- Made of expressions alone. -/
inductive Nd.Ex : Nd → Prop
  | mk {k : Int} {t y : ByteArray} {n f o a ta : Int} {ks : List Nd} : 13 ≤ k → k ≤ 24 → (∀ x, x ∈ ks → Nd.Ex x) → Nd.Ex (.mk k t y n f o a ta ks)
theorem exP : ExP Nd.Ex := fun _ _ _ _ _ _ _ _ _ h1 h2 h3 => .mk h1 h2 h3
theorem expr_ok {s : ByteArray} {l : List Tk} (hg : Tk.good s l) (a : Nat) (d : Int) (h : a < l.length) : ACallQ cx 35 [.sl 0 (Tk.rows l), .int .i64 (a : Nat), .int .i64 d] (ruleQ Nd.Ex l a) none :=
  expression_ok Nd.Ex a d ((expr_all hg Nd.Ex exP _ a d h (Nat.le_refl _)).2 1 (by decide) (by decide))
/-- A token that is a name bears this text, and stands there. -/
def tokAt (l : List Tk) (t : ByteArray) (a : Int) : Prop := ∃ i, nameV l i = true ∧ t = (l.getD i default).text ∧ a = (l.getD i default).at_
inductive Nd.St (l : List Tk) : Nd → Prop
  | mk {k : Int} {t y : ByteArray} {n f o a ta : Int} {ks : List Nd} : 5 ≤ k → k ≤ 12 → (∀ x, x ∈ ks → 13 ≤ x.kind → Nd.Ex x) → (∀ x, x ∈ ks → x.kind < 13 → Nd.St l x) → (k = 6 → tokAt l t a) → (k = 5 → ∀ x, x ∈ ks → x.kind < 13) → Nd.St l (.mk k t y n f o a ta ks)
theorem Nd.Ex.kind {x : Nd} (h : Nd.Ex x) : 13 ≤ x.kind := by cases h; assumption
theorem Nd.St.kind {l : List Tk} {x : Nd} (h : Nd.St l x) : 5 ≤ x.kind ∧ x.kind ≤ 12 := by cases h; exact ⟨by assumption, by assumption⟩
theorem Nd.St.make {l : List Tk} {k : Int} {t y : ByteArray} {n f o a ta : Int} {ks : List Nd} (h1 : 5 ≤ k) (h2 : k ≤ 12) (h3 : ∀ n ∈ ks, Nd.Ex n ∨ Nd.St l n) (h7 : k = 6 → tokAt l t a) (h8 : k = 5 → ∀ x, x ∈ ks → x.kind < 13) : Nd.St l (.mk k t y n f o a ta ks) :=
  .mk h1 h2 (fun x hx hk => (h3 x hx).elim id (fun h => by have := h.kind; omega)) (fun x hx hk => (h3 x hx).elim (fun h => by have := h.kind; omega) id) h7 h8
theorem rule_st {l : List Tk} {a : Nat} (k : Int) (t y : ByteArray) (n f o x ta : Int) (ks : List Nd) (b : Nat) (h1 : 5 ≤ k) (h2 : k ≤ 12) (h3 : ∀ n ∈ ks, Nd.Ex n ∨ Nd.St l n) (h4 : a < b) (h5 : b < l.length) (h6 : Nd.countL ks + 1 + a ≤ b) (h7 : k = 6 → tokAt l t x) (h8 : k = 5 → ∀ x, x ∈ ks → x.kind < 13) : ruleQ (Nd.St l) l a (.tup [.agg (Nd.mk k t y n f o x ta ks).cells, .int .i64 (b : Nat), .agg [.int .i64 (-1), .int .i64 0]]) :=
  rule_good _ _ (.make h1 h2 h3 h7 h8) h4 h5 (by simpa [Nd.count] using h6)
theorem brack_ok {s : ByteArray} {l : List Tk} (hg : Tk.good s l) (a : Nat) (d : Int) (h : a < l.length) : ACallQ cx 58 [.sl 0 (Tk.rows l), .int .i64 (a : Nat), .int .i64 d] (ruleQ Nd.Ex l a) none :=
  bracketed_ok hg (by have := Tk.good_len hg; omega) Nd.Ex a d (fun b _ hb => expr_ok hg b d hb) h
end Go.Proofs.AL
namespace Go.Proofs.AL
open Go Go.RowKit Go.Proofs.Try
set_option maxRecDepth 100000
set_option linter.unusedSimpArgs false
set_option maxHeartbeats 8000000 in
theorem locals_ok {s : ByteArray} {l : List Tk} (hg : Tk.good s l) (a : Nat) (d : Int) (ha : a < l.length) : ACallQ cx 33 [.sl 0 (Tk.rows l), .int .i64 (a : Nat), .int .i64 d] (ruleQ (Nd.St l) l a) none := by
  refine ACallQ.wpl (C := cx) T.func_33 (by kernel_rfl) rfl (by rfl) (fun _ => ?_)
  have hl : l.length ≤ 10000000 := by have := Tk.good_len hg; omega
  have ha0 : a < l.length := by omega
  have w1 : IntKind.i64.wrap ((a : Int) + 1) = ((a + 1 : Nat) : Int) := by rw [wrap64_in (by omega) (by omega)]; omega
  have w2 : IntKind.i64.wrap ((a : Int) + 2) = ((a + 2 : Nat) : Int) := by rw [wrap64_in (by omega) (by omega)]; omega
  have w3 : IntKind.i64.wrap ((a : Int) + 3) = ((a + 3 : Nat) : Int) := by rw [wrap64_in (by omega) (by omega)]; omega
  simp [f33]
  refine callP_i (is_ok _ _ _) ?_
  simp
  cases e1 : isV l a ⟨#[118, 111, 105, 100]⟩ <;> simp [e1, pu]
  rotate_left
  · refine callP_i (syntax_ok _) ?_
    simp
    exact rule_bad default 0 (by omega)
  rw [w1]
  refine callP_i (name_ok _ _) ?_
  simp
  cases e2 : nameV l (a + 1) <;> simp [e2, pu]
  · rw [w1]
    refine callP_i (syntax_ok _) ?_
    simp
    exact rule_bad default 0 (by omega)
  have ke2 := nameV_lt hg e2
  rw [w2]
  refine callP_i (is_ok _ _ _) ?_
  simp
  cases e3 : isV l (a + 2) ⟨#[61]⟩ <;> simp [e3, pu]
  · rw [w2]
    refine callP_i (syntax_ok _) ?_
    simp
    exact rule_bad default 0 (by omega)
  have ke3 := isV_lt hg e3
  rw [w3]
  refine callP_q (expr_ok hg (a + 3) _ ke3) ?_
  rintro _ ⟨n, b, w, e, rfl, hwe4⟩
  simp
  refine split2_i (fun e4 => ?_) (fun e4 => ?_) <;> simp [e4, pu]
  · exact ⟨by kernel_rfl, rule_bad default 0 (by simp at e4; omega)⟩
  obtain ⟨hPn, hb1, hb2, hb3⟩ := hwe4 (by simp at e4; omega)
  have wb : IntKind.i64.wrap ((b : Int) + 1) = ((b + 1 : Nat) : Int) := by rw [wrap64_in (by omega) (by omega)]; omega
  refine callP_i (is_ok _ _ _) ?_
  simp
  cases e5 : isV l b ⟨#[59]⟩ <;> simp [e5, pu]
  · refine callP_i (syntax_ok _) ?_
    simp
    exact rule_bad default 0 (by omega)
  have ke5 := isV_lt hg e5
  simp [wb]
  refine callP_i (made_ok l 6 a (b + 1) [n] ha0 (by omega) (by omega) (by omega)) ?_
  simp
  refine callP_i (typed_ok l _ a (by omega) (by omega)) ?_
  simp
  refine callP_i fine_ok ?_
  simp [wb]
  refine rule_st 6 _ _ _ _ _ _ _ [n] (b + 1) (by decide) (by decide) ?_ ?_ ?_ ?_ (fun _ => ⟨a + 1, e2, ?_, ?_⟩) (fun h => by omega)
  · simp [hPn]
  · omega
  · exact ke5
  · simp [countL_one]; omega
  · simp
  · simp
set_option maxHeartbeats 8000000 in
theorem simple_ok {s : ByteArray} {l : List Tk} (hg : Tk.good s l) (a : Nat) (d : Int) (ha : a + 1 < l.length) : ACallQ cx 50 [.sl 0 (Tk.rows l), .int .i64 (a : Nat), .int .i64 d] (ruleQ (Nd.St l) l a) none := by
  refine ACallQ.wpl (C := cx) T.func_50 (by kernel_rfl) rfl (by rfl) (fun _ => ?_)
  have hl : l.length ≤ 10000000 := by have := Tk.good_len hg; omega
  have ha0 : a < l.length := by omega
  have w1 : IntKind.i64.wrap ((a : Int) + 1) = ((a + 1 : Nat) : Int) := by rw [wrap64_in (by omega) (by omega)]; omega
  have w2 : IntKind.i64.wrap ((a : Int) + 2) = ((a + 2 : Nat) : Int) := by rw [wrap64_in (by omega) (by omega)]; omega
  have w3 : IntKind.i64.wrap ((a : Int) + 3) = ((a + 3 : Nat) : Int) := by rw [wrap64_in (by omega) (by omega)]; omega
  simp [f50]
  refine callP_i (is_ok _ _ _) ?_
  simp
  cases e1 : isV l a ⟨#[112, 114, 105, 110, 116]⟩ <;> simp [e1, pu]
  · rw [w1]
    refine callP_i (is_ok _ _ _) ?_
    simp
    cases e2 : isV l (a + 1) ⟨#[59]⟩ <;> simp [e2, pu]
    · rw [w1]
      refine callP_q (expr_ok hg (a + 1) _ ha) ?_
      rintro _ ⟨n, b, w, e, rfl, hwe4⟩
      simp
      refine split2_i (fun e4 => ?_) (fun e4 => ?_) <;> simp [e4, pu]
      · exact ⟨by kernel_rfl, rule_bad default 0 (by simp at e4; omega)⟩
      obtain ⟨hPn, hb1, hb2, hb3⟩ := hwe4 (by simp at e4; omega)
      have wb : IntKind.i64.wrap ((b : Int) + 1) = ((b + 1 : Nat) : Int) := by rw [wrap64_in (by omega) (by omega)]; omega
      refine callP_i (is_ok _ _ _) ?_
      simp
      cases e5 : isV l b ⟨#[59]⟩ <;> simp [e5, pu]
      · refine callP_i (syntax_ok _) ?_
        simp
        exact rule_bad default 0 (by omega)
      have ke5 := isV_lt hg e5
      simp [wb]
      refine callP_i (made_ok l 11 a (b + 1) [n] ha0 (by omega) (by omega) (by omega)) ?_
      simp
      refine callP_i fine_ok ?_
      simp [wb]
      refine rule_st 11 _ _ _ _ _ _ _ [n] (b + 1) (by decide) (by decide) ?_ ?_ ?_ ?_ ?_ ?_
      · simp [hPn]
      · omega
      · exact ke5
      · simp [countL_one]; omega
      · intro h; omega
      · intro h; omega
    · have k2 := isV_lt hg e2
      rw [w2]
      refine callP_i (made_ok l 11 a (a + 2) [] ha0 (by omega) (by omega) (by omega)) ?_
      simp
      refine callP_i fine_ok ?_
      simp [w2]
      refine rule_st 11 _ _ _ _ _ _ _ [] (a + 2) (by decide) (by decide) ?_ ?_ ?_ ?_ ?_ ?_
      · simp
      · omega
      · exact k2
      · simp [countL_nil]; omega
      · intro h; omega
      · intro h; omega
  · rw [w1]
    refine callP_q (brack_ok hg (a + 1) _ ha) ?_
    rintro _ ⟨n, b, w, e, rfl, hwe4⟩
    simp
    refine split2_i (fun e4 => ?_) (fun e4 => ?_) <;> simp [e4, pu]
    · exact ⟨by kernel_rfl, rule_bad default 0 (by simp at e4; omega)⟩
    obtain ⟨hPn, hb1, hb2, hb3⟩ := hwe4 (by simp at e4; omega)
    have wb : IntKind.i64.wrap ((b : Int) + 1) = ((b + 1 : Nat) : Int) := by rw [wrap64_in (by omega) (by omega)]; omega
    refine callP_i (is_ok _ _ _) ?_
    simp
    cases e5 : isV l b ⟨#[59]⟩ <;> simp [e5, pu]
    · refine callP_i (syntax_ok _) ?_
      simp
      exact rule_bad default 0 (by omega)
    have ke5 := isV_lt hg e5
    simp [wb]
    refine callP_i (made_ok l 12 a (b + 1) [n] ha0 (by omega) (by omega) (by omega)) ?_
    simp
    refine callP_i fine_ok ?_
    simp [wb]
    refine rule_st 12 _ _ _ _ _ _ _ [n] (b + 1) (by decide) (by decide) ?_ ?_ ?_ ?_ ?_ ?_
    · simp [hPn]
    · omega
    · exact ke5
    · simp [countL_one]; omega
    · intro h; omega
    · intro h; omega
set_option maxHeartbeats 8000000 in
theorem guarded_ok {s : ByteArray} {l : List Tk} (hg : Tk.good s l) (a : Nat) (d : Int) (ha : a + 1 < l.length) (hs : ∀ b d, a < b → b < l.length → ACallQ cx 34 [.sl 0 (Tk.rows l), .int .i64 (b : Nat), .int .i64 d] (ruleQ (Nd.St l) l b) none) : ACallQ cx 49 [.sl 0 (Tk.rows l), .int .i64 (a : Nat), .int .i64 d] (ruleQ (Nd.St l) l a) none := by
  refine ACallQ.wpl (C := cx) T.func_49 (by kernel_rfl) rfl (by rfl) (fun _ => ?_)
  have hl : l.length ≤ 10000000 := by have := Tk.good_len hg; omega
  have ha0 : a < l.length := by omega
  have w1 : IntKind.i64.wrap ((a : Int) + 1) = ((a + 1 : Nat) : Int) := by rw [wrap64_in (by omega) (by omega)]; omega
  have w2 : IntKind.i64.wrap ((a : Int) + 2) = ((a + 2 : Nat) : Int) := by rw [wrap64_in (by omega) (by omega)]; omega
  have w3 : IntKind.i64.wrap ((a : Int) + 3) = ((a + 3 : Nat) : Int) := by rw [wrap64_in (by omega) (by omega)]; omega
  simp [f49]
  rw [w1]
  refine callP_q (brack_ok hg (a + 1) _ ha) ?_
  rintro _ ⟨n, b, w, e, rfl, hwe1⟩
  simp
  refine split2_i (fun e1 => ?_) (fun e1 => ?_) <;> simp [e1, pu]
  · exact ⟨by kernel_rfl, rule_bad default 0 (by simp at e1; omega)⟩
  obtain ⟨hPn, hb1, hb2, hb3⟩ := hwe1 (by simp at e1; omega)
  have wb : IntKind.i64.wrap ((b : Int) + 1) = ((b + 1 : Nat) : Int) := by rw [wrap64_in (by omega) (by omega)]; omega
  refine callP_q (hs b _ (by omega) hb2) ?_
  rintro _ ⟨n2, c, w2', e2', rfl, hwe2⟩
  simp
  refine split2_i (fun e2 => ?_) (fun e2 => ?_) <;> simp [e2, pu]
  · exact ⟨by kernel_rfl, rule_bad default 0 (by simp at e2; omega)⟩
  obtain ⟨hPn2, hc1, hc2, hc3⟩ := hwe2 (by simp at e2; omega)
  have wc : IntKind.i64.wrap ((c : Int) + 1) = ((c + 1 : Nat) : Int) := by rw [wrap64_in (by omega) (by omega)]; omega
  refine ⟨by decide, callP_i (is_ok _ _ _) ?_⟩
  simp
  cases e3 : isV l a ⟨#[119, 104, 105, 108, 101]⟩ <;> simp [e3, pu]
  · refine callP_i (is_ok _ _ _) ?_
    simp
    cases e4 : isV l c ⟨#[101, 108, 115, 101]⟩ <;> simp [e4, pu]
    · refine callP_i (made_ok l 9 a c [n, n2] ha0 (by omega) (by omega) (by omega)) ?_
      simp
      refine callP_i fine_ok ?_
      simp
      refine rule_st 9 _ _ _ _ _ _ _ [n, n2] c (by decide) (by decide) ?_ ?_ ?_ ?_ ?_ ?_
      · simp [hPn, hPn2]
      · omega
      · exact hc2
      · simp [countL_two]; omega
      · intro h; omega
      · intro h; omega
    · have ke4 := isV_lt hg e4
      rw [wc]
      refine callP_q (hs (c + 1) _ (by omega) ke4) ?_
      rintro _ ⟨n3, g, w3', e3', rfl, hwe5⟩
      simp
      refine split2_i (fun e5 => ?_) (fun e5 => ?_) <;> simp [e5, pu]
      · exact ⟨by kernel_rfl, rule_bad default 0 (by simp at e5; omega)⟩
      obtain ⟨hPn3, hg1, hg2, hg3⟩ := hwe5 (by simp at e5; omega)
      have wg : IntKind.i64.wrap ((g : Int) + 1) = ((g + 1 : Nat) : Int) := by rw [wrap64_in (by omega) (by omega)]; omega
      refine callP_i (made_ok l 9 a g [n, n2, n3] ha0 (by omega) (by omega) (by omega)) ?_
      simp
      refine callP_i fine_ok ?_
      simp
      refine rule_st 9 _ _ _ _ _ _ _ [n, n2, n3] g (by decide) (by decide) ?_ ?_ ?_ ?_ ?_ ?_
      · simp [hPn, hPn2, hPn3]
      · omega
      · exact hg2
      · simp [countL_three]; omega
      · intro h; omega
      · intro h; omega
  · refine callP_i (made_ok l 10 a c [n, n2] ha0 (by omega) (by omega) (by omega)) ?_
    simp
    refine callP_i fine_ok ?_
    simp
    refine rule_st 10 _ _ _ _ _ _ _ [n, n2] c (by decide) (by decide) ?_ ?_ ?_ ?_ ?_ ?_
    · simp [hPn, hPn2]
    · omega
    · exact hc2
    · simp [countL_two]; omega
    · intro h; omega
    · intro h; omega
set_option maxHeartbeats 8000000 in
theorem block_ok {s : ByteArray} {l : List Tk} (hg : Tk.good s l) (a : Nat) (d : Int) (ha : a < l.length) (hs : ∀ b d, a < b → b < l.length → ACallQ cx 34 [.sl 0 (Tk.rows l), .int .i64 (b : Nat), .int .i64 d] (ruleQ (Nd.St l) l b) none) : ACallQ cx 47 [.sl 0 (Tk.rows l), .int .i64 (a : Nat), .int .i64 d] (ruleQ (Nd.St l) l a) none := by
  refine ACallQ.wpl (C := cx) T.func_47 (by kernel_rfl) rfl (by rfl) (fun _ => ?_)
  have hl : l.length ≤ 10000000 := by have := Tk.good_len hg; omega
  have ha0 : a < l.length := by omega
  have w1 : IntKind.i64.wrap ((a : Int) + 1) = ((a + 1 : Nat) : Int) := by rw [wrap64_in (by omega) (by omega)]; omega
  have w2 : IntKind.i64.wrap ((a : Int) + 2) = ((a + 2 : Nat) : Int) := by rw [wrap64_in (by omega) (by omega)]; omega
  have w3 : IntKind.i64.wrap ((a : Int) + 3) = ((a + 3 : Nat) : Int) := by rw [wrap64_in (by omega) (by omega)]; omega
  simp [f47]
  refine callP_i (is_ok _ _ _) ?_
  simp
  cases e1 : isV l a ⟨#[123]⟩ <;> simp [e1, pu]
  · refine callP_i (syntax_ok _) ?_
    simp
    exact rule_bad default 0 (by omega)
  have ke1 := isV_lt hg e1
  rw [w1]
  refine loopK [0, 1, 2, 6, 8] (fun (p : Nat × Nat × List Nd) nx => a < p.1 ∧ p.1 < l.length ∧ p.2.1 < nx ∧ (p.2.1 = 1 ∧ p.2.2 = [] ∨ 3 ≤ p.2.1) ∧ (∀ y ∈ p.2.2, Nd.St l y) ∧ Nd.countL p.2.2 + a + 1 ≤ p.1) (fun p => [(10, .int .i64 (p.1 : Nat)), (9, .sl p.2.1 (Nd.rows p.2.2))]) (fun _ => [[.int .i64 0, .str .empty, .str .empty, .int .i64 0, .int .i64 0, .int .i64 0, .int .i64 0, .int .i64 0, .sl 1 []], [.int .i64 0, .int .i64 0]]) (fun p => if p.2.1 = 1 then [] else [(p.2.1, 24)]) (fun p => l.length - p.1) (a + 1, 1, []) (by simp [Nd.countL]; omega) (by simp) [] rfl (by simp) ?_
  rintro ⟨c, tk, ks⟩ nx g ⟨hc1, hc2, htk, hk, hP, hct⟩ h3 -
  dsimp only at hc1 hc2 htk hk hP hct
  have hlv : tk = 1 ∨ tk = 2 ∨ ¬tk = 0 ∧ ¬tk = 2 ∧ look (if tk = 1 then [] else [(tk, 24)]) tk = some 24 := by
    rcases hk with ⟨h, -⟩ | h
    · exact .inl h
    · have : ¬ tk = 1 := by omega
      exact .inr (.inr ⟨by omega, by omega, by simp [this]⟩)
  have hnx : ¬ nx = 1 := by omega
  have hkl := Nd.len_countL ks
  have wc : IntKind.i64.wrap ((c : Int) + 1) = ((c + 1 : Nat) : Int) := by rw [wrap64_in (by omega) (by omega)]; omega
  simp
  refine callP_i (is_ok _ _ _) ?_
  simp
  cases e2 : isV l c ⟨#[125]⟩ <;> simp [e2, pu]
  rotate_left
  · have ke2 := isV_lt hg e2
    rw [wc]
    refine callP_i (made_ok l 5 a (c + 1) ks ha0 (by omega) (by omega) (by omega)) ?_
    simp
    refine callP_i fine_ok ?_
    simp [wc]
    refine rule_st 5 _ _ _ _ _ _ _ ks (c + 1) (by decide) (by decide) ?_ ?_ ?_ ?_ ?_ ?_
    · exact fun n hn => .inr (hP n hn)
    · omega
    · exact ke2
    · omega
    · intro h; omega
    · exact fun _ n hn => by have := (hP n hn).kind; omega
  refine callP_i (local_ok _ _ (by omega)) ?_
  simp
  cases e3 : localV l c <;> simp [e3, pu]
  · refine callP_q (hs c _ hc1 hc2) ?_
    rintro _ ⟨n, b, w, e, rfl, hw⟩
    simp
    refine split2_i (fun e4 => ?_) (fun e4 => ?_) <;> simp [e4, pu]
    · exact ⟨by kernel_rfl, rule_bad default 0 (by simp at e4; omega)⟩
    obtain ⟨hPn, hb1, hb2, hb3⟩ := hw (by simp at e4; omega)
    have hct' : Nd.countL (ks ++ [n]) = Nd.countL ks + n.count := by rw [Nd.countL_append]; simp [Nd.countL]
    have hP' : ∀ y ∈ ks ++ [n], Nd.St l y := fun y hy => by
      rcases List.mem_append.1 hy with h | h
      · exact hP y h
      · simp only [List.mem_singleton] at h
        exact h ▸ hPn
    exact ⟨⟨by omega, hlv⟩, againK_i (b, nx, ks ++ [n]) (g ++ [n.cells, [.int .i64 w, .int .i64 e]]) ⟨by dsimp only; omega, hb2, by simp, .inr h3, hP', by rw [hct']; dsimp only; omega⟩ (by dsimp only; omega) (by simp) (by simp) (by simp [hnx])⟩
  · refine callP_q (locals_ok hg c _ hc2) ?_
    rintro _ ⟨n, b, w, e, rfl, hw⟩
    simp
    refine split2_i (fun e0 => ?_) (fun e0 => ?_) <;> simp [e0, pu]
    · exact ⟨by kernel_rfl, rule_bad default 0 (by omega)⟩
    refine split2_i (fun e4 => ?_) (fun e4 => ?_) <;> simp [e4, pu]
    · exact ⟨by kernel_rfl, rule_bad default 0 (by simp at e4; omega)⟩
    obtain ⟨hPn, hb1, hb2, hb3⟩ := hw (by simp at e4; omega)
    have hct' : Nd.countL (ks ++ [n]) = Nd.countL ks + n.count := by rw [Nd.countL_append]; simp [Nd.countL]
    have hP' : ∀ y ∈ ks ++ [n], Nd.St l y := fun y hy => by
      rcases List.mem_append.1 hy with h | h
      · exact hP y h
      · simp only [List.mem_singleton] at h
        exact h ▸ hPn
    exact ⟨⟨by omega, hlv⟩, againK_i (b, nx, ks ++ [n]) (g ++ [n.cells, [.int .i64 w, .int .i64 e]]) ⟨by dsimp only; omega, hb2, by simp, .inr h3, hP', by rw [hct']; dsimp only; omega⟩ (by dsimp only; omega) (by simp) (by simp) (by simp [hnx])⟩
set_option maxHeartbeats 8000000 in
theorem stmRule_ok {s : ByteArray} {l : List Tk} (hg : Tk.good s l) (a : Nat) (d : Int) (ha : a < l.length) (hs : ∀ b d, a < b → b < l.length → ACallQ cx 34 [.sl 0 (Tk.rows l), .int .i64 (b : Nat), .int .i64 d] (ruleQ (Nd.St l) l b) none) : ACallQ cx 34 [.sl 0 (Tk.rows l), .int .i64 (a : Nat), .int .i64 d] (ruleQ (Nd.St l) l a) none := by
  refine ACallQ.wpl (C := cx) T.func_34 (by kernel_rfl) rfl (by rfl) (fun _ => ?_)
  have hl : l.length ≤ 10000000 := by have := Tk.good_len hg; omega
  have ha0 : a < l.length := by omega
  have w1 : IntKind.i64.wrap ((a : Int) + 1) = ((a + 1 : Nat) : Int) := by rw [wrap64_in (by omega) (by omega)]; omega
  have w2 : IntKind.i64.wrap ((a : Int) + 2) = ((a + 2 : Nat) : Int) := by rw [wrap64_in (by omega) (by omega)]; omega
  have w3 : IntKind.i64.wrap ((a : Int) + 3) = ((a + 3 : Nat) : Int) := by rw [wrap64_in (by omega) (by omega)]; omega
  simp [f34]
  refine split2_i (fun e0 => ?_) (fun e0 => ?_) <;> simp [e0, pu]
  · exact rule_bad default 0 (by omega)
  refine callP_i (is_ok _ _ _) ?_
  simp
  cases e1 : isV l a ⟨#[123]⟩ <;> simp [e1, pu]
  rotate_left
  · refine callP_q (block_ok hg a d ha hs) ?_
    rintro _ ⟨n, b, w, e, rfl, hw⟩
    simp [pu]
    exact ⟨n, b, w, e, rfl, hw⟩
  refine callP_i (is_ok _ _ _) ?_
  simp
  cases f0 : isV l a ⟨#[105, 102]⟩ <;> simp [f0, pu]
  rotate_left
  · refine callP_q (guarded_ok hg a d (isV_lt hg f0) hs) ?_
    rintro _ ⟨n, b, w, e, rfl, hw⟩
    simp [pu]
    exact ⟨n, b, w, e, rfl, hw⟩
  refine callP_i (is_ok _ _ _) ?_
  simp
  cases f1 : isV l a ⟨#[119, 104, 105, 108, 101]⟩ <;> simp [f1, pu]
  rotate_left
  · refine callP_q (guarded_ok hg a d (isV_lt hg f1) hs) ?_
    rintro _ ⟨n, b, w, e, rfl, hw⟩
    simp [pu]
    exact ⟨n, b, w, e, rfl, hw⟩
  refine callP_i (is_ok _ _ _) ?_
  simp
  cases f2 : isV l a ⟨#[114, 101, 116, 117, 114, 110]⟩ <;> simp [f2, pu]
  rotate_left
  · refine callP_q (simple_ok hg a d (isV_lt hg f2)) ?_
    rintro _ ⟨n, b, w, e, rfl, hw⟩
    simp [pu]
    exact ⟨n, b, w, e, rfl, hw⟩
  refine callP_i (is_ok _ _ _) ?_
  simp
  cases f3 : isV l a ⟨#[112, 114, 105, 110, 116]⟩ <;> simp [f3, pu]
  rotate_left
  · refine callP_q (simple_ok hg a d (isV_lt hg f3)) ?_
    rintro _ ⟨n, b, w, e, rfl, hw⟩
    simp [pu]
    exact ⟨n, b, w, e, rfl, hw⟩
  refine callP_q (expr_ok hg a _ ha) ?_
  rintro _ ⟨n, b, w, e, rfl, hwe4⟩
  simp
  refine split2_i (fun e4 => ?_) (fun e4 => ?_) <;> simp [e4, pu]
  · exact ⟨by kernel_rfl, rule_bad default 0 (by simp at e4; omega)⟩
  obtain ⟨hPn, hb1, hb2, hb3⟩ := hwe4 (by simp at e4; omega)
  have wb : IntKind.i64.wrap ((b : Int) + 1) = ((b + 1 : Nat) : Int) := by rw [wrap64_in (by omega) (by omega)]; omega
  refine callP_i (is_ok _ _ _) ?_
  simp
  cases e5 : isV l b ⟨#[61]⟩ <;> simp [e5, pu]
  · refine callP_i (is_ok _ _ _) ?_
    simp
    cases e6 : isV l b ⟨#[59]⟩ <;> simp [e6, pu]
    · refine callP_i (syntax_ok _) ?_
      simp
      exact rule_bad default 0 (by omega)
    have ke6 := isV_lt hg e6
    simp [wb]
    refine callP_i (made_ok l 8 a (b + 1) [n] ha0 (by omega) (by omega) (by omega)) ?_
    simp
    refine callP_i fine_ok ?_
    simp [wb]
    refine rule_st 8 _ _ _ _ _ _ _ [n] (b + 1) (by decide) (by decide) ?_ ?_ ?_ ?_ ?_ ?_
    · simp [hPn]
    · omega
    · exact ke6
    · simp [countL_one]; omega
    · intro h; omega
    · intro h; omega
  · have ke5 := isV_lt hg e5
    rw [wb]
    refine callP_q (expr_ok hg (b + 1) _ ke5) ?_
    rintro _ ⟨n2, c, w2', e2', rfl, hwe7⟩
    simp
    refine split2_i (fun e7 => ?_) (fun e7 => ?_) <;> simp [e7, pu]
    · exact ⟨by kernel_rfl, rule_bad default 0 (by simp at e7; omega)⟩
    obtain ⟨hPn2, hc1, hc2, hc3⟩ := hwe7 (by simp at e7; omega)
    have wc : IntKind.i64.wrap ((c : Int) + 1) = ((c + 1 : Nat) : Int) := by rw [wrap64_in (by omega) (by omega)]; omega
    refine callP_i (is_ok _ _ _) ?_
    simp
    cases e6 : isV l c ⟨#[59]⟩ <;> simp [e6, pu]
    · refine callP_i (syntax_ok _) ?_
      simp
      exact rule_bad default 0 (by omega)
    have ke6 := isV_lt hg e6
    simp [wc]
    refine callP_i (made_ok l 7 a (c + 1) [n, n2] ha0 (by omega) (by omega) (by omega)) ?_
    simp
    refine callP_i fine_ok ?_
    simp [wc]
    refine rule_st 7 _ _ _ _ _ _ _ [n, n2] (c + 1) (by decide) (by decide) ?_ ?_ ?_ ?_ ?_ ?_
    · simp [hPn, hPn2]
    · omega
    · exact ke6
    · simp [countL_two]; omega
    · intro h; omega
    · intro h; omega
theorem stm_all {s : ByteArray} {l : List Tk} (hg : Tk.good s l) : ∀ (m a : Nat) (d : Int), a < l.length → l.length - a ≤ m → ACallQ cx 34 [.sl 0 (Tk.rows l), .int .i64 (a : Nat), .int .i64 d] (ruleQ (Nd.St l) l a) none := by
  intro m
  induction m with
  | zero => intro a d h1 h2; omega
  | succ m ih => intro a d h1 h2; exact stmRule_ok hg a d h1 (fun b d hb1 hb2 => ih b d hb2 (by omega))
theorem stm_ok {s : ByteArray} {l : List Tk} (hg : Tk.good s l) (a : Nat) (d : Int) (h : a < l.length) : ACallQ cx 34 [.sl 0 (Tk.rows l), .int .i64 (a : Nat), .int .i64 d] (ruleQ (Nd.St l) l a) none := stm_all hg _ a d h (Nat.le_refl _)
theorem blk_ok {s : ByteArray} {l : List Tk} (hg : Tk.good s l) (a : Nat) (d : Int) (h : a < l.length) : ACallQ cx 47 [.sl 0 (Tk.rows l), .int .i64 (a : Nat), .int .i64 d] (ruleQ (Nd.St l) l a) none := block_ok hg a d h (fun b d _ hb => stm_ok hg b d hb)
end Go.Proofs.AL
