/- What the functions that the law FlowChecks reaches compute, and the law (part 2). -/
import Derived.Test.YtknabihpplaheaaAlFlowChecks1
namespace Go.Proofs.AL
open Go Go.RowKit Go.Proofs.Try
set_option maxRecDepth 100000
/-- A token's kind and length, or why there is none. -/
def tokQ (s : ByteArray) (a : Nat) (r : AV) : Prop := ∃ (k n : Nat) (e : Int), r = .tup [.int .i64 (k : Nat), .int .i64 (n : Nat), .int .i64 e] ∧ (e = 0 → 1 ≤ k ∧ k ≤ 4 ∧ 1 ≤ n ∧ a + n ≤ s.size)
set_option maxHeartbeats 4000000 in
theorem token_ok (s : ByteArray) (a : Nat) (ha : a < s.size) (hs : s.size ≤ 1048576) : ACallQ cx 40 [.str s, .int .i64 (a : Nat)] (tokQ s a) none := by
  refine ACallQ.wpl (C := cx) T.func_40 (by kernel_rfl) rfl (by rfl) (fun _ => ?_)
  simp [f40, ha]
  have wr : ∀ n : Nat, n ≤ 1048576 → IntKind.i64.wrap ((n : Int) + 1) = ((n + 1 : Nat) : Int) := fun n hn => by rw [wrap64_in (by omega) (by omega)]; omega
  have wa : ∀ n : Nat, n ≤ 1048576 → IntKind.i64.wrap ((a : Int) + (n : Int)) = ((a + n : Nat) : Int) := fun n hn => by rw [wrap64_in (by omega) (by omega)]; omega
  refine callP_i (digit_ok _) ?_
  simp
  refine split2_i (fun h1 => ?_) (fun h1 => ?_) <;> simp [h1]
  · refine loopK [0, 1] (fun n _ => a + n ≤ s.size) (fun n => [(7, .int .i64 (n : Nat))]) (fun _ => []) (fun _ => []) (fun n => s.size - n) 0 (by omega) (by simp) [] rfl (by simp) ?_
    rintro n nx g hn - -
    have w1 := wr n (by omega)
    have w2 := wa n (by omega)
    have n1 : 0 ≤ (a : Int) + n := by omega
    by_cases h2 : a + n < s.size
    · have c1 : (a : Int) + n < s.size := by omega
      simp [w1, w2, n1, c1]
      refine callP_i (digit_ok _) ?_
      simp
      refine split2_i (fun h4 => ?_) (fun h4 => ?_) <;> simp [h4, w1, w2]
      · exact againK_i (n + 1) g (by omega) (by omega) (by simp) rfl (by simp)
      · have n0 : 1 ≤ n := by
          rcases Nat.eq_zero_or_pos n with e | e
          · subst e; simp_all
          · exact e
        refine ⟨⟨by omega, by omega⟩, callP_q (great_ok _) ?_⟩
        rintro _ ⟨b, rfl⟩
        simp
        cases b <;> simp [pu]
        · by_cases n2 : 1 < n
          · have n3 : (1 : Int) < (n : Int) := by omega
            simp [n2, n3, ha]
            refine split2_i (fun h5 => ?_) (fun h5 => ?_) <;> simp [h5, pu]
            · exact ⟨0, 0, _, rfl, by simp⟩
            · exact ⟨2, n, 0, rfl, fun _ => ⟨by omega, by omega, by omega, hn⟩⟩
          · have n3 : ¬ (1 : Int) < (n : Int) := by omega
            simp [n2, n3, pu]
            exact ⟨2, n, 0, rfl, fun _ => ⟨by omega, by omega, by omega, hn⟩⟩
        · exact ⟨0, 0, _, rfl, by simp⟩
    · have c1 : ¬ (a : Int) + n < s.size := by omega
      simp [w1, w2, c1]
      refine ⟨⟨by omega, by omega⟩, callP_q (great_ok _) ?_⟩
      rintro _ ⟨b, rfl⟩
      simp
      cases b <;> simp [pu]
      · by_cases n2 : 1 < n
        · have n3 : (1 : Int) < (n : Int) := by omega
          simp [n2, n3, ha]
          refine split2_i (fun h5 => ?_) (fun h5 => ?_) <;> simp [h5, pu]
          · exact ⟨0, 0, _, rfl, by simp⟩
          · exact ⟨2, n, 0, rfl, fun _ => ⟨by omega, by omega, by omega, hn⟩⟩
        · have n3 : ¬ (1 : Int) < (n : Int) := by omega
          simp [n2, n3, pu]
          exact ⟨2, n, 0, rfl, fun _ => ⟨by omega, by omega, by omega, hn⟩⟩
      · exact ⟨0, 0, _, rfl, by simp⟩
  · simp [ha]
    refine callP_i (letter_ok _) ?_
    simp
    refine split2_i (fun h6 => ?_) (fun h6 => ?_) <;> simp [h6]
    · refine loopK [0, 1] (fun n _ => a + n ≤ s.size) (fun n => [(7, .int .i64 (n : Nat))]) (fun _ => []) (fun _ => []) (fun n => s.size - n) 0 (by omega) (by simp) [] rfl (by simp) ?_
      rintro n nx g hn - -
      have w1 := wr n (by omega)
      have w2 := wa n (by omega)
      have n1 : 0 ≤ (a : Int) + n := by omega
      by_cases h2 : a + n < s.size
      · have c1 : (a : Int) + n < s.size := by omega
        simp [w1, w2, n1, c1]
        refine callP_i (letter_ok _) ?_
        simp
        refine split2_i (fun h4 => ?_) (fun h4 => ?_) <;> simp [h4, w1, w2, n1, c1]
        · exact againK_i (n + 1) g (by omega) (by omega) (by simp) rfl (by simp)
        · refine callP_i (digit_ok _) ?_
          simp
          refine split2_i (fun h5 => ?_) (fun h5 => ?_) <;> simp [h5, w1, w2]
          · exact againK_i (n + 1) g (by omega) (by omega) (by simp) rfl (by simp)
          · have n0 : 1 ≤ n := by
              rcases Nat.eq_zero_or_pos n with e | e
              · subst e; simp_all
              · exact e
            by_cases n2 : 20 < n
            · have n3 : (20 : Int) < (n : Int) := by omega
              simp [n2, n3, pu]
              exact ⟨0, 0, _, rfl, by simp⟩
            · have n3 : ¬ (20 : Int) < (n : Int) := by omega
              simp [n2, n3, w2]
              refine ⟨⟨by omega, by omega⟩, callP_q (kept_ok _) ?_⟩
              rintro _ ⟨b, rfl⟩
              simp
              cases b <;> simp [pu]
              · exact ⟨1, n, 0, rfl, fun _ => ⟨by omega, by omega, by omega, hn⟩⟩
              · exact ⟨3, n, 0, rfl, fun _ => ⟨by omega, by omega, by omega, hn⟩⟩
      · have c1 : ¬ (a : Int) + n < s.size := by omega
        simp [w1, w2, c1]
        by_cases n2 : 20 < n
        · have n3 : (20 : Int) < (n : Int) := by omega
          simp [n2, n3, pu]
          exact ⟨0, 0, _, rfl, by simp⟩
        · have n3 : ¬ (20 : Int) < (n : Int) := by omega
          simp [n2, n3, w2]
          refine ⟨⟨by omega, by omega⟩, callP_q (kept_ok _) ?_⟩
          rintro _ ⟨b, rfl⟩
          simp
          cases b <;> simp [pu]
          · exact ⟨1, n, 0, rfl, fun _ => ⟨by omega, by omega, by omega, hn⟩⟩
          · exact ⟨3, n, 0, rfl, fun _ => ⟨by omega, by omega, by omega, hn⟩⟩
    · refine callP_q (mark_ok s a ha hs) ?_
      rintro _ ⟨m, rfl, hm1, hm2⟩
      simp
      refine split2_i (fun h7 => ?_) (fun h7 => ?_) <;> simp [h7, pu]
      · exact ⟨0, 0, _, rfl, by simp⟩
      · exact ⟨4, m, 0, rfl, fun _ => ⟨by omega, by omega, by simp at h7; omega, hm2⟩⟩
end Go.Proofs.AL
namespace Go.Proofs.AL
open Go Go.RowKit Go.Proofs.Try
set_option maxRecDepth 100000
/-- Tokens as a parser may lean on them: the last one is the end, none before it is. -/
def Tk.okIn (s : ByteArray) (y : Tk) : Prop := 1 ≤ y.kind ∧ y.kind ≤ 4 ∧ ∃ a m : Nat, y.at_ = a ∧ a + m ≤ s.size ∧ y.text = s.extract a (a + m)
def Tk.good (s : ByteArray) (l : List Tk) : Prop := ∃ (i : List Tk) (x : Tk), l = i ++ [x] ∧ (x.kind = 5 ∧ x.text = .empty) ∧ (∀ y ∈ i, y.okIn s) ∧ i.length ≤ s.size ∧ s.size ≤ 1048576
def lexQ (s : ByteArray) (r : AV) : Prop := ∃ (l : List Tk) (n : Nat) (e : Int), r = .tup [.sl 0 (Tk.rows l), .int .i64 (n : Nat), .int .i64 e] ∧ (e = 0 → Tk.good s l)
set_option maxHeartbeats 4000000 in
theorem lex_ok (s : ByteArray) : ACallQ cx 26 [.str s] (lexQ s) none := by
  refine ACallQ.wpl (C := cx) T.func_26 (by kernel_rfl) rfl (by rfl) (fun _ => ?_)
  simp [f26]
  by_cases hs : s.size ≤ 1048576
  rotate_left
  · have c1 : (1048576 : Int) < s.size := by omega
    simp [c1, pu, hs]
    exact ⟨[], 0, 2, rfl, by simp⟩
  have c1 : ¬ (1048576 : Int) < s.size := by omega
  simp [c1, pu, hs]
  refine loopK [0] (fun (p : Nat × Nat × List Tk) nx => p.1 ≤ s.size ∧ p.2.1 < nx ∧ (p.2.1 = 1 ∧ p.2.2 = [] ∨ 3 ≤ p.2.1) ∧ (∀ y ∈ p.2.2, y.okIn s) ∧ p.2.2.length ≤ p.1) (fun p => [(6, .int .i64 (p.1 : Nat)), (5, .sl p.2.1 (Tk.rows p.2.2))]) (fun _ => []) (fun p => if p.2.1 = 1 then [] else [(p.2.1, 52)]) (fun p => s.size - p.1) (0, 1, []) (by simp) (by simp) [] rfl (by simp) ?_
  rintro ⟨a, tk, l⟩ nx g ⟨ha, htk, hl, hk, hn⟩ h3 -
  dsimp only at ha htk hl hk hn
  simp
  refine callP_q (between_ok s a ha hs) ?_
  rintro _ ⟨n, b, rfl, hn1, hn2⟩
  simp
  cases b <;> simp [pu]
  · exact ⟨[], n, 32, rfl, by simp⟩
  by_cases h4 : n = s.size
  · subst h4
    simp [ha]
    refine ⟨⟨by omega, ?_⟩, _, 0, 0, rfl, fun _ => ⟨l, _, rfl, ⟨rfl, rfl⟩, hk, by omega, hs⟩⟩
    rcases hl with ⟨h, -⟩ | h
    · exact .inl h
    · have : ¬ tk = 1 := by omega
      exact .inr (.inr ⟨by omega, by omega, by simp [this]⟩)
  have h5 : ((n : Int) == s.size) = false := by simp; omega
  simp [h5]
  refine callP_q (token_ok s n (by omega) hs) ?_
  rintro _ ⟨k, m, e, rfl, he⟩
  simp
  by_cases h6 : e = 0
  rotate_left
  · have h7 : (e != 0) = true := by simpa using h6
    simp [h7, pu]
    exact ⟨[], n, e, rfl, fun x => absurd x h6⟩
  subst h6
  obtain ⟨k1, k2, m1, m2⟩ := he rfl
  have w1 : IntKind.i64.wrap ((n : Int) + (m : Int)) = ((n + m : Nat) : Int) := by rw [wrap64_in (by omega) (by omega)]; omega
  simp [w1]
  have hlv : tk = 1 ∨ tk = 2 ∨ ¬tk = 0 ∧ ¬tk = 2 ∧ look (if tk = 1 then [] else [(tk, 52)]) tk = some 52 := by
    rcases hl with ⟨h, -⟩ | h
    · exact .inl h
    · have : ¬ tk = 1 := by omega
      exact .inr (.inr ⟨by omega, by omega, by simp [this]⟩)
  refine ⟨⟨by omega, by omega⟩, ⟨hn1, hn2⟩, ⟨by omega, hlv⟩, by rfl, ?_⟩
  have hnx : ¬ nx = 1 := by omega
  refine againK_i (n + m, nx, l ++ [⟨k, s.extract n ((n : Int) + (m : Int)).toNat, n, s.extract a n⟩]) g ⟨m2, by simp, .inr h3, ?_, by simp; omega⟩ (by dsimp only; omega) (by simp) rfl (by simp [hnx])
  intro y hy
  rcases List.mem_append.1 hy with h | h
  · exact hk y h
  · simp only [List.mem_singleton] at h
    subst h
    exact ⟨by dsimp only; omega, by dsimp only; omega, n, m, rfl, m2, rfl⟩
end Go.Proofs.AL
namespace Go.Proofs.AL
open Go Go.RowKit Go.Proofs.Try
set_option maxRecDepth 100000
/-- Is this text, not a name nor the end, at this place? -/
def isV (l : List Tk) (a : Nat) (x : ByteArray) : Bool := decide (a < l.length) && decide ((l.getD a default).text = x) && (l.getD a default).kind != 1 && (l.getD a default).kind != 5
theorem is_ok (l : List Tk) (a : Nat) (x : ByteArray) : ACall cx 41 [.sl 0 (Tk.rows l), .int .i64 (a : Nat), .str x] (.bool (isV l a x)) none := by
  refine ACall.wpc (C := cx) T.func_41 (by kernel_rfl) rfl (by rfl) ?_
  by_cases h : a < l.length
  · have c : (a : Int) < l.length := by omega
    simp [f41, h, c]
    repeat' ((with_reducible refine split2_i (fun h => ?_) (fun h => ?_)) <;> simp [h, c, *])
    all_goals simp_all [isV]
  · have c : ¬ (a : Int) < l.length := by omega
    simp [f41, h, c]
    simp [isV, h]
def nameV (l : List Tk) (a : Nat) : Bool := decide (a < l.length) && (l.getD a default).kind == 1
theorem name_ok (l : List Tk) (a : Nat) : ACall cx 42 [.sl 0 (Tk.rows l), .int .i64 (a : Nat)] (.bool (nameV l a)) none := by
  refine ACall.wpc (C := cx) T.func_42 (by kernel_rfl) rfl (by rfl) ?_
  by_cases h : a < l.length
  · have c : (a : Int) < l.length := by omega
    simp [f42, h, c, nameV]
  · have c : ¬ (a : Int) < l.length := by omega
    simp [f42, h, c, nameV]
/-- Where the token ahead of a place ends. -/
def endV (l : List Tk) (a : Nat) : Int := IntKind.i64.wrap ((l.getD (a - 1) default).at_ + ((l.getD (a - 1) default).text.size : Nat))
theorem end_ok (l : List Tk) (a : Nat) (h1 : 1 ≤ a) (h2 : a ≤ l.length) (h3 : a ≤ 10000000) : ACall cx 57 [.sl 0 (Tk.rows l), .int .i64 (a : Nat)] (.int .i64 (endV l a)) none := by
  refine ACall.wpc (C := cx) T.func_57 (by kernel_rfl) rfl (by rfl) ?_
  have w : IntKind.i64.wrap ((a : Int) - 1) = ((a - 1 : Nat) : Int) := by rw [wrap64_in (by omega) (by omega)]; omega
  have c : a - 1 < l.length := by omega
  simp [f57, w, c]
  exact ⟨by rfl, by simp [endV, c]⟩
theorem fine_ok : ACall cx 44 [] (.agg [.int .i64 (-1), .int .i64 0]) none := by
  refine ACall.wpc (C := cx) T.func_44 (by kernel_rfl) rfl (by rfl) ?_
  simp [f44]
theorem syntax_ok (a : Int) : ACall cx 36 [.int .i64 a] (.agg [.int .i64 a, .int .i64 120]) none := by
  refine ACall.wpc (C := cx) T.func_36 (by kernel_rfl) rfl (by rfl) ?_
  simp [f36]
theorem made_ok (l : List Tk) (k : Int) (a b : Nat) (kids : List Nd) (h0 : a < l.length) (h1 : 1 ≤ b) (h2 : b ≤ l.length) (h3 : b ≤ 10000000) : ACall cx 43 [.sl 0 (Tk.rows l), .int .i64 k, .int .i64 (a : Nat), .int .i64 (b : Nat), .sl 0 (Nd.rows kids)] (.agg (Nd.mk k .empty .empty 0 (l.getD a default).at_ (endV l b) (-1) (-1) kids).cells) none := by
  refine ACall.wpc (C := cx) T.func_43 (by kernel_rfl) rfl (by rfl) ?_
  simp only [Nd.cells]
  simp [f43, h0]
  refine callP_i (end_ok l b h1 h2 h3) ?_
  simp
  rfl
end Go.Proofs.AL
namespace Go.Proofs.AL
open Go Go.RowKit Go.Proofs.Try
set_option maxRecDepth 100000
theorem isV_lt {s : ByteArray} {l : List Tk} (h : Tk.good s l) {a : Nat} {x : ByteArray} (e : isV l a x = true) : a + 1 < l.length := by
  obtain ⟨i, y, rfl, ⟨hy, -⟩, -, -⟩ := h
  simp [isV] at e
  obtain ⟨⟨⟨h1, -⟩, -⟩, h2⟩ := e
  by_cases h3 : a = i.length
  · subst h3
    simp [hy] at h2
  · simp
    omega
theorem nameV_lt {s : ByteArray} {l : List Tk} (h : Tk.good s l) {a : Nat} (e : nameV l a = true) : a + 1 < l.length := by
  obtain ⟨i, y, rfl, ⟨hy, -⟩, -, -⟩ := h
  simp [nameV] at e
  obtain ⟨h1, h2⟩ := e
  by_cases h3 : a = i.length
  · subst h3
    simp [hy] at h2
  · simp
    omega
theorem Tk.good_len {s : ByteArray} {l : List Tk} (h : Tk.good s l) : l.length ≤ 1048577 := by
  obtain ⟨i, y, rfl, -, -, h1, h2⟩ := h
  simp; omega
theorem Tk.good_in {s : ByteArray} {l : List Tk} (h : Tk.good s l) {a : Nat} (ha : a + 1 < l.length) : (l.getD a default).okIn s := by
  obtain ⟨i, y, rfl, -, h1, -, -⟩ := h
  have hi : a < i.length := by simp at ha; omega
  rw [List.getD_eq_getElem?_getD, List.getElem?_append_left hi, List.getElem?_eq_getElem hi]
  exact h1 _ (List.getElem_mem hi)
theorem Tk.good_size {s : ByteArray} {l : List Tk} (h : Tk.good s l) {a : Nat} (ha : a < l.length) : (l.getD a default).text.size ≤ 1048576 := by
  obtain ⟨i, y, rfl, ⟨-, hy⟩, h1, -, h2⟩ := h
  rcases Nat.lt_or_ge a i.length with hi | hi
  · rw [List.getD_eq_getElem?_getD, List.getElem?_append_left hi, List.getElem?_eq_getElem hi]
    obtain ⟨-, -, b, m, -, h3, h4⟩ := h1 _ (List.getElem_mem hi)
    show (i[a]).text.size ≤ _
    rw [h4, ByteArray.size_extract]; omega
  · have : a = i.length := by simp at ha; omega
    subst this
    simp [hy]
theorem Tk.good_kind {s : ByteArray} {l : List Tk} (h : Tk.good s l) {a : Nat} (ha : a < l.length) (hk : (l.getD a default).kind ≠ 5) : a + 1 < l.length := by
  obtain ⟨i, y, rfl, ⟨hy, -⟩, -, -⟩ := h
  by_cases h3 : a = i.length
  · subst h3
    simp [hy] at hk
  · simp at ha ⊢
    omega
theorem typed_ok (l : List Tk) (n : Nd) (a : Nat) (h : a + 1 < l.length) (h3 : a ≤ 10000000) : ACall cx 48 [.sl 0 (Tk.rows l), .agg n.cells, .int .i64 (a : Nat)] (.agg (Nd.mk n.kind (l.getD (a + 1) default).text (l.getD a default).text n.n n.from_ n.to (l.getD (a + 1) default).at_ (l.getD a default).at_ n.kids).cells) none := by
  refine ACall.wpc (C := cx) T.func_48 (by kernel_rfl) rfl (by rfl) ?_
  have w : IntKind.i64.wrap ((a : Int) + 1) = ((a + 1 : Nat) : Int) := by rw [wrap64_in (by omega) (by omega)]; omega
  have h0 : a < l.length := by omega
  have h1 : (a : Int) + 1 < l.length := by omega
  have h2 : 0 ≤ (a : Int) + 1 := by omega
  rw [Nd.cells_eq n]
  simp only [Nd.cells]
  simp [f48, h, h0, h1, h2, w]
  rw [Nd.cells_eq n]
  rfl
def kindV (l : List Tk) (a : Nat) : Bool := nameV l a || isV l a ⟨#[105, 110, 116]⟩ || isV l a ⟨#[98, 111, 111, 108, 101, 97, 110]⟩ || isV l a ⟨#[118, 111, 105, 100]⟩
theorem kind_ok (l : List Tk) (a : Nat) : ACall cx 45 [.sl 0 (Tk.rows l), .int .i64 (a : Nat)] (.bool (kindV l a)) none := by
  refine ACall.wpc (C := cx) T.func_45 (by kernel_rfl) rfl (by rfl) ?_
  simp [f45]
  refine callP_i (name_ok _ _) ?_
  simp
  refine split2_i (fun e1 => ?_) (fun e1 => ?_) <;> simp [e1]
  · simp [kindV, e1]
  refine callP_i (is_ok _ _ _) ?_
  simp
  refine split2_i (fun e2 => ?_) (fun e2 => ?_) <;> simp [e2]
  · simp [kindV, e2]
  refine callP_i (is_ok _ _ _) ?_
  simp
  refine split2_i (fun e3 => ?_) (fun e3 => ?_) <;> simp [e3]
  · simp [kindV, e3]
  refine callP_i (is_ok _ _ _) ?_
  simp [kindV, e1, e2, e3]
def localV (l : List Tk) (a : Nat) : Bool := isV l a ⟨#[105, 110, 116]⟩ || isV l a ⟨#[98, 111, 111, 108, 101, 97, 110]⟩ || isV l a ⟨#[118, 111, 105, 100]⟩ || (nameV l a && nameV l (a + 1))
theorem local_ok (l : List Tk) (a : Nat) (ha : a ≤ 10000000) : ACall cx 32 [.sl 0 (Tk.rows l), .int .i64 (a : Nat)] (.bool (localV l a)) none := by
  refine ACall.wpc (C := cx) T.func_32 (by kernel_rfl) rfl (by rfl) ?_
  have w : IntKind.i64.wrap ((a : Int) + 1) = ((a + 1 : Nat) : Int) := by rw [wrap64_in (by omega) (by omega)]; omega
  simp [f32]
  refine callP_i (is_ok _ _ _) ?_
  simp
  refine split2_i (fun e1 => ?_) (fun e1 => ?_) <;> simp [e1]
  · simp [localV, e1]
  refine callP_i (is_ok _ _ _) ?_
  simp
  refine split2_i (fun e2 => ?_) (fun e2 => ?_) <;> simp [e2]
  · simp [localV, e2]
  refine callP_i (is_ok _ _ _) ?_
  simp
  refine split2_i (fun e3 => ?_) (fun e3 => ?_) <;> simp [e3]
  · simp [localV, e3]
  refine callP_i (name_ok _ _) ?_
  simp
  refine split2_i (fun e4 => ?_) (fun e4 => ?_) <;> simp [e4]
  · rw [w]
    refine callP_i (name_ok _ _) ?_
    simp [localV, e1, e2, e3, e4]
  · simp [localV, e1, e2, e3, e4]
end Go.Proofs.AL
namespace Go.Proofs.AL
open Go Go.RowKit Go.Proofs.Try
set_option maxRecDepth 100000
/-- What a rule of the grammar hands back: a node, the next place, where it goes wrong; if nowhere: the place lies behind the one it began at, and not behind the end. -/
def ruleQ (P : Nd → Prop) (l : List Tk) (a : Nat) (r : AV) : Prop := ∃ (n : Nd) (b : Nat) (w e : Int), r = .tup [.agg n.cells, .int .i64 (b : Nat), .agg [.int .i64 w, .int .i64 e]] ∧ (w < 0 → P n ∧ a < b ∧ b < l.length ∧ n.count + a ≤ b)
def rulesQ (P : Nd → Prop) (l : List Tk) (a : Nat) (r : AV) : Prop := ∃ (ks : List Nd) (b : Nat) (w e : Int), r = .tup [.sl 0 (Nd.rows ks), .int .i64 (b : Nat), .agg [.int .i64 w, .int .i64 e]] ∧ (w < 0 → (∀ n ∈ ks, P n) ∧ a < b ∧ b < l.length ∧ Nd.countL ks + a + 1 ≤ b)
set_option maxHeartbeats 4000000 in
theorem arguments_ok {s : ByteArray} {l : List Tk} (hg : Tk.good s l) (hl : l.length ≤ 10000000) (P : Nd → Prop) (a : Nat) (d : Int) (ha : a < l.length) (he : ∀ b, a ≤ b → b < l.length → ACallQ cx 35 [.sl 0 (Tk.rows l), .int .i64 (b : Nat), .int .i64 d] (ruleQ P l b) none) : ACallQ cx 62 [.sl 0 (Tk.rows l), .int .i64 (a : Nat), .int .i64 d] (rulesQ P l a) none := by
  refine ACallQ.wpl (C := cx) T.func_62 (by kernel_rfl) rfl (by rfl) (fun _ => ?_)
  have wr : ∀ n : Nat, n ≤ 10000000 → IntKind.i64.wrap ((n : Int) + 1) = ((n + 1 : Nat) : Int) := fun n hn => by rw [wrap64_in (by omega) (by omega)]; omega
  have w1 := wr a (by omega)
  simp [f62]
  refine callP_i (is_ok _ _ _) ?_
  simp
  refine split2_i (fun e1 => ?_) (fun e1 => ?_) <;> simp [e1, w1, pu]
  · refine callP_i fine_ok ?_
    simp
    exact ⟨[], a + 1, -1, 0, rfl, fun _ => ⟨by simp, by omega, isV_lt hg e1, by simp [Nd.countL]⟩⟩
  refine loopK [0, 2, 8] (fun (p : Nat × Nat × List Nd) nx => a ≤ p.1 ∧ p.1 < l.length ∧ p.2.1 < nx ∧ (p.2.1 = 1 ∧ p.2.2 = [] ∨ 3 ≤ p.2.1) ∧ (∀ y ∈ p.2.2, P y) ∧ p.2.2.length ≤ p.1 ∧ Nd.countL p.2.2 + a ≤ p.1) (fun p => [(1, .int .i64 (p.1 : Nat)), (9, .sl p.2.1 (Nd.rows p.2.2))]) (fun _ => [[.int .i64 0, .int .i64 0]]) (fun p => if p.2.1 = 1 then [] else [(p.2.1, 24)]) (fun p => l.length - p.1) (a, 1, []) (by simp [Nd.countL]; omega) (by simp) [] rfl (by simp) ?_
  rintro ⟨c, tk, ks⟩ nx g ⟨hc1, hc2, htk, hk, hP, hn, hct⟩ h3 -
  dsimp only at hc1 hc2 htk hk hP hn hct
  simp
  refine callP_q (he c hc1 hc2) ?_
  rintro _ ⟨n, b, w, e, rfl, hw⟩
  simp
  refine split2_i (fun e2 => ?_) (fun e2 => ?_) <;> simp [e2, pu]
  · have e3 : ¬ w < 0 := by simp at e2; omega
    exact ⟨by rfl, [], 0, w, e, rfl, fun h => absurd h e3⟩
  obtain ⟨hPn, hb1, hb2, hb3⟩ := hw (by simp at e2; omega)
  have hc' : Nd.countL (ks ++ [n]) = Nd.countL ks + n.count := by rw [Nd.countL_append]; simp [Nd.countL]
  have hlv : tk = 1 ∨ tk = 2 ∨ ¬tk = 0 ∧ ¬tk = 2 ∧ look (if tk = 1 then [] else [(tk, 24)]) tk = some 24 := by
    rcases hk with ⟨h, -⟩ | h
    · exact .inl h
    · have : ¬ tk = 1 := by omega
      exact .inr (.inr ⟨by omega, by omega, by simp [this]⟩)
  have hnx : ¬ nx = 1 := by omega
  have wb := wr b (by omega)
  have hP' : ∀ y ∈ ks ++ [n], P y := fun y hy => by
    rcases List.mem_append.1 hy with h | h
    · exact hP y h
    · simp only [List.mem_singleton] at h
      exact h ▸ hPn
  refine ⟨⟨by omega, hlv⟩, callP_i (is_ok _ _ _) ?_⟩
  simp
  refine split2_i (fun e4 => ?_) (fun e4 => ?_) <;> simp [e4, pu, wb]
  · refine callP_i fine_ok ?_
    simp
    exact ⟨ks ++ [n], b + 1, -1, 0, rfl, fun _ => ⟨hP', by omega, isV_lt hg e4, by omega⟩⟩
  refine callP_i (is_ok _ _ _) ?_
  simp
  refine split2_i (fun e5 => ?_) (fun e5 => ?_) <;> simp [e5, pu, wb]
  · have b2 := isV_lt hg e5
    exact againK_i (b + 1, nx, ks ++ [n]) (g ++ [n.cells, [.int .i64 w, .int .i64 e]]) ⟨by dsimp only; omega, b2, by simp, .inr h3, hP', by simp; omega, by rw [hc']; dsimp only; omega⟩ (by dsimp only; omega) (by simp) (by simp) (by simp [hnx])
  · refine callP_i (syntax_ok _) ?_
    simp
    exact ⟨[], 0, b, 120, rfl, fun h => by omega⟩
end Go.Proofs.AL
namespace Go.Proofs.AL
open Go Go.RowKit Go.Proofs.Try
set_option maxRecDepth 100000
theorem expression_ok {l : List Tk} (P : Nd → Prop) (a : Nat) (d : Int) (he : ACallQ cx 51 [.sl 0 (Tk.rows l), .int .i64 (a : Nat), .int .i64 d, .int .i64 1] (ruleQ P l a) none) : ACallQ cx 35 [.sl 0 (Tk.rows l), .int .i64 (a : Nat), .int .i64 d] (ruleQ P l a) none := by
  refine ACallQ.wpl (C := cx) T.func_35 (by kernel_rfl) rfl (by rfl) (fun _ => ?_)
  simp [f35]
  refine callP_q he ?_
  rintro _ ⟨n, b, w, e, rfl, hw⟩
  simp [pu]
  exact ⟨n, b, w, e, rfl, hw⟩
set_option maxHeartbeats 4000000 in
theorem bracketed_ok {s : ByteArray} {l : List Tk} (hg : Tk.good s l) (hl : l.length ≤ 10000000) (P : Nd → Prop) (a : Nat) (d : Int) (he : ∀ b, a < b → b < l.length → ACallQ cx 35 [.sl 0 (Tk.rows l), .int .i64 (b : Nat), .int .i64 d] (ruleQ P l b) none) (ha : a < l.length) : ACallQ cx 58 [.sl 0 (Tk.rows l), .int .i64 (a : Nat), .int .i64 d] (ruleQ P l a) none := by
  refine ACallQ.wpl (C := cx) T.func_58 (by kernel_rfl) rfl (by rfl) (fun _ => ?_)
  have wr : ∀ n : Nat, n ≤ 10000000 → IntKind.i64.wrap ((n : Int) + 1) = ((n + 1 : Nat) : Int) := fun n hn => by rw [wrap64_in (by omega) (by omega)]; omega
  have w1 := wr a (by omega)
  simp [f58]
  refine callP_i (is_ok _ _ _) ?_
  simp
  cases e1 : isV l a ⟨#[40]⟩ <;> simp [e1, pu]
  · refine callP_i (syntax_ok _) ?_
    simp
    exact ⟨default, 0, a, 120, rfl, fun h => by omega⟩
  rw [w1]
  refine callP_q (he (a + 1) (by omega) (isV_lt hg e1)) ?_
  rintro _ ⟨n, b, w, e, rfl, hw⟩
  simp
  refine split2_i (fun e2 => ?_) (fun e2 => ?_) <;> simp [e2, pu]
  · have e3 : ¬ w < 0 := by simp at e2; omega
    exact ⟨by rfl, default, 0, w, e, rfl, fun h => absurd h e3⟩
  obtain ⟨hPn, hb1, hb2, hb3⟩ := hw (by simp at e2; omega)
  have wb := wr b (by omega)
  refine callP_i (is_ok _ _ _) ?_
  simp
  cases e4 : isV l b ⟨#[41]⟩ <;> simp [e4, pu, wb]
  · refine callP_i (syntax_ok _) ?_
    simp
    exact ⟨default, 0, b, 120, rfl, fun h => by omega⟩
  refine callP_i fine_ok ?_
  simp
  exact ⟨by rfl, n, b + 1, -1, 0, rfl, fun _ => ⟨hPn, by omega, isV_lt hg e4, by omega⟩⟩
end Go.Proofs.AL
namespace Go.Proofs.AL
open Go Go.RowKit Go.Proofs.Try
set_option maxRecDepth 100000
/-- Rows of texts, as the program has them. -/
def strRows2 (l : List (List ByteArray)) : List (List AV) := l.map fun s => [.sl 0 (strRows s)]
@[simp] theorem strRows2_length (l : List (List ByteArray)) : (strRows2 l).length = l.length := by simp [strRows2]
@[simp] theorem strRows2_all (l : List (List ByteArray)) : (∀ el ∈ strRows2 l, el.length = 1) = True := by simp [strRows2]
@[simp] theorem strRows2_er (l : List (List ByteArray)) : (strRows2 l).map (List.map er1) = strRows2 l := by simp [strRows2, er1]
@[simp high] theorem strRows2_idx {tk : Nat} {l : List (List ByteArray)} {k : IntKind} {n : Int} : idxAddr prog 80 (.sl tk (strRows2 l)) (.int k n) = if 0 ≤ n ∧ n < l.length then some (.cptr [.sl 0 (strRows (l.getD n.toNat []))]) else none := by
  simp only [idxAddr, T.elT_80, T.szOf_31, strRows2_length, strRows2_all, if_true]
  by_cases h : 0 ≤ n ∧ n < l.length
  · rw [if_pos h, if_pos h]
    have : n.toNat < l.length := by omega
    simp [strRows2, this]
  · rw [if_neg h, if_neg h]
set_option maxHeartbeats 4000000 in
theorem binds_ok {s : ByteArray} {l : List Tk} (hg : Tk.good s l) (a : Nat) : ACallQ cx 60 [.sl 0 (Tk.rows l), .int .i64 (a : Nat)] (fun r => ∃ n : Nat, r = .int .i64 (n : Nat) ∧ (n ≠ 0 → a + 1 < l.length)) none := by
  refine ACallQ.wpl (C := cx) T.func_60 (by kernel_rfl) rfl (by rfl) (fun _ => ?_)
  simp [f60]
  refine ⟨by decide, by decide, by decide, by decide, by decide, ?_⟩
  obtain ⟨kw, hkw, hl⟩ : ∃ kw : List (List ByteArray), strRows2 kw = [[.sl 0 [[.str ⟨#[124, 124]⟩]]], [.sl 0 [[.str ⟨#[38, 38]⟩]]], [.sl 0 [[.str ⟨#[61, 61]⟩], [.str ⟨#[33, 61]⟩]]], [.sl 0 [[.str ⟨#[60]⟩], [.str ⟨#[60, 61]⟩], [.str ⟨#[62]⟩], [.str ⟨#[62, 61]⟩]]], [.sl 0 [[.str ⟨#[43]⟩], [.str ⟨#[45]⟩]]], [.sl 0 [[.str ⟨#[42]⟩], [.str ⟨#[47]⟩], [.str ⟨#[37]⟩]]]] ∧ kw.length = 6 ∧ ∀ i, (kw.getD i []).length ≤ 4 := ⟨[[_], [_], [_, _], [_, _, _, _], [_, _], [_, _, _]], rfl, rfl, fun i => by
    match i with
    | 0 | 1 | 2 | 3 | 4 | 5 => simp
    | i + 6 => simp⟩
  rw [← hkw]
  clear hkw
  obtain ⟨hl, h4⟩ := hl
  refine loopK [0, 1, 5] (fun i _ => i ≤ 6) (fun i => [(6, .int .i64 (i : Nat))]) (fun _ => []) (fun _ => []) (fun i => 6 - i) 0 (by simp) (by simp) [] rfl (by simp) ?_
  rintro i nx g hi - -
  by_cases h1 : i < 6
  · have c1 : (i : Int) < 6 := by omega
    simp [hl, h1, c1]
    have wi : IntKind.i64.wrap ((i : Int) + 1) = ((i + 1 : Nat) : Int) := by rw [wrap64_in (by omega) (by omega)]; omega
    have h5 := h4 i
    have hl' : i < kw.length := by omega
    have hr : (kw.getD i []) = kw[i] := by simp [hl']
    rw [hr] at h5
    refine loopK [0, 1, 5, 6] (fun k _ => k ≤ kw[i].length) (fun k => [(7, .int .i64 (k : Nat))]) (fun _ => []) (fun _ => []) (fun k => kw[i].length - k) 0 (by simp) (by simp) g rfl (by simp) ?_
    rintro k nx' g' hk - -
    have wk : IntKind.i64.wrap ((k : Int) + 1) = ((k + 1 : Nat) : Int) := by rw [wrap64_in (by omega) (by omega)]; omega
    by_cases h6 : k < kw[i].length
    · have c2 : (k : Int) < (kw[i].length : Nat) := by omega
      simp [hl, h1, c1, h6, c2]
      refine callP_i (is_ok _ _ _) ?_
      simp
      refine split2_i (fun e1 => ?_) (fun e1 => ?_) <;> simp [e1, wi, wk, pu]
      · exact ⟨i + 1, by simp, fun _ => isV_lt hg e1⟩
      · exact againK_i (k + 1) g' (by omega) (by omega) (by simp) rfl (by simp)
    · have c2 : ¬ (k : Int) < (kw[i].length : Nat) := by omega
      simp [hl, h1, c1, h6, c2, wi]
      exact againK_i (i + 1) g' (by omega) (by omega) (by simp) rfl (by simp)
  · have c1 : ¬ (i : Int) < 6 := by omega
    simp [hl, h1, c1, pu]
    exact ⟨0, rfl, by simp⟩
end Go.Proofs.AL
namespace Go.Proofs.AL
open Go Go.RowKit Go.Proofs.Try
set_option maxRecDepth 100000
/-- Made of expressions' nodes. -/
def ExP (P : Nd → Prop) : Prop := ∀ (k : Int) (t y : ByteArray) (n f o a ta : Int) (ks : List Nd), 13 ≤ k → k ≤ 24 → (∀ x ∈ ks, P x) → P (.mk k t y n f o a ta ks)
set_option maxHeartbeats 4000000 in
theorem level_ok {s : ByteArray} {l : List Tk} (hg : Tk.good s l) (hl : l.length ≤ 10000000) (P : Nd → Prop) (hP : ExP P) (a : Nat) (d : Int) (k : Nat) (hk1 : 1 ≤ k) (hk2 : k ≤ 7) (ha : a < l.length)
    (hu : ACallQ cx 59 [.sl 0 (Tk.rows l), .int .i64 (a : Nat), .int .i64 d] (ruleQ P l a) none)
    (he : ∀ b, a ≤ b → b < l.length → k < 7 → ACallQ cx 51 [.sl 0 (Tk.rows l), .int .i64 (b : Nat), .int .i64 d, .int .i64 ((k + 1 : Nat) : Int)] (ruleQ P l b) none) : ACallQ cx 51 [.sl 0 (Tk.rows l), .int .i64 (a : Nat), .int .i64 d, .int .i64 (k : Nat)] (ruleQ P l a) none := by
  refine ACallQ.wpl (C := cx) T.func_51 (by kernel_rfl) rfl (by rfl) (fun _ => ?_)
  simp [f51]
  have wk : IntKind.i64.wrap ((k : Int) + 1) = ((k + 1 : Nat) : Int) := by rw [wrap64_in (by omega) (by omega)]; omega
  by_cases h1 : 6 < k
  · have c1 : (6 : Int) < k := by omega
    simp [h1, c1]
    refine callP_q hu ?_
    rintro _ ⟨n, b, w, e, rfl, hw⟩
    simp [pu]
    exact ⟨n, b, w, e, rfl, hw⟩
  have c1 : ¬ (6 : Int) < k := by omega
  simp [h1, c1, wk]
  refine callP_q (he a (Nat.le_refl _) ha (by omega)) ?_
  rintro _ ⟨n, b, w, e, rfl, hw⟩
  simp
  refine split2_i (fun e2 => ?_) (fun e2 => ?_) <;> simp [e2, pu]
  · have e3 : ¬ w < 0 := by simp at e2; omega
    exact ⟨by rfl, default, 0, w, e, rfl, fun h => absurd h e3⟩
  obtain ⟨hPn, hb1, hb2, hb0⟩ := hw (by simp at e2; omega)
  refine loopK [0, 1, 2, 3, 8, 10, 11, 13] (fun (p : Nd × Nat) _ => P p.1 ∧ a < p.2 ∧ p.2 < l.length ∧ p.1.count + a ≤ p.2) (fun p => [(12, .int .i64 (p.2 : Nat))]) (fun p => [[.int .i64 0, .str .empty, .str .empty, .int .i64 0, .int .i64 0, .int .i64 0, .int .i64 0, .int .i64 0, .sl 1 []], [.int .i64 0, .int .i64 0], p.1.cells, [.int .i64 w, .int .i64 e]]) (fun _ => []) (fun p => l.length - p.2) (n, b) ⟨hPn, hb1, hb2, hb0⟩ (by simp) [] rfl (by simp) ?_
  rintro ⟨n, b⟩ nx g ⟨hPn, hb1, hb2, hb0⟩ h3 -
  dsimp only at hPn hb1 hb2 hb0
  simp
  refine callP_q (binds_ok hg b) ?_
  rintro _ ⟨m, rfl, hm⟩
  simp
  by_cases h6 : m = k
  rotate_left
  · have h7 : ((m : Int) == (k : Int)) = false := by simp; omega
    simp [h7, pu]
    refine callP_i fine_ok ?_
    simp
    exact ⟨by rfl, n, b, -1, 0, rfl, fun _ => ⟨hPn, hb1, hb2, hb0⟩⟩
  subst h6
  have b2 := hm (by omega)
  have wb : IntKind.i64.wrap ((b : Int) + 1) = ((b + 1 : Nat) : Int) := by rw [wrap64_in (by omega) (by omega)]; omega
  simp [wb, wk]
  refine callP_q (he (b + 1) (by omega) b2 (by omega)) ?_
  rintro _ ⟨n2, b', w', e', rfl, hw'⟩
  simp
  refine split2_i (fun e4 => ?_) (fun e4 => ?_) <;> simp [e4, pu]
  · have e5 : ¬ w' < 0 := by simp at e4; omega
    exact ⟨by rfl, default, 0, w', e', rfl, fun h => absurd h e5⟩
  obtain ⟨hPn2, hb3, hb4, hb5⟩ := hw' (by simp at e4; omega)
  simp [hb2]
  refine ⟨by decide, callP_i (made_ok l 24 a b' [n, n2] ha (by omega) (by omega) (by omega)) ?_⟩
  simp only [Nd.cells]
  simp
  exact againK_i (.mk 24 (l.getD b default).text .empty 0 (l.getD a default).at_ (endV l b') (-1) (-1) [n, n2], b') (g ++ [n2.cells, [.int .i64 w', .int .i64 e']]) ⟨hP 24 _ _ _ _ _ _ _ _ (by decide) (by decide) (by simp [hPn, hPn2]), by omega, hb4, by simp [Nd.count, Nd.countL]; omega⟩ (by dsimp only; omega) (by simp) (by simp only [Nd.cells]; simp [hb2, ha]; rfl) (by simp)
end Go.Proofs.AL
namespace Go.Proofs.AL
open Go Go.RowKit Go.Proofs.Try
set_option maxRecDepth 100000
set_option linter.unusedSimpArgs false
theorem rule_bad {P : Nd → Prop} {l : List Tk} {a : Nat} (n : Nd) (b : Nat) {w e : Int} (h : 0 ≤ w) : ruleQ P l a (.tup [.agg n.cells, .int .i64 (b : Nat), .agg [.int .i64 w, .int .i64 e]]) := ⟨n, b, w, e, rfl, fun h' => by omega⟩
theorem rule_good {P : Nd → Prop} {l : List Tk} {a : Nat} (n : Nd) (b : Nat) (h1 : P n) (h2 : a < b) (h3 : b < l.length) (h4 : n.count + a ≤ b) : ruleQ P l a (.tup [.agg n.cells, .int .i64 (b : Nat), .agg [.int .i64 (-1), .int .i64 0]]) := ⟨n, b, -1, 0, rfl, fun _ => ⟨h1, h2, h3, h4⟩⟩
theorem rule_node {P : Nd → Prop} (hP : ExP P) {l : List Tk} {a : Nat} (k : Int) (t y : ByteArray) (n f o x ta : Int) (ks : List Nd) (b : Nat) (h1 : 13 ≤ k) (h2 : k ≤ 24) (h3 : ∀ n ∈ ks, P n) (h4 : a < b) (h5 : b < l.length) (h6 : Nd.countL ks + 1 + a ≤ b) : ruleQ P l a (.tup [.agg (Nd.mk k t y n f o x ta ks).cells, .int .i64 (b : Nat), .agg [.int .i64 (-1), .int .i64 0]]) :=
  rule_good _ _ (hP k _ _ _ _ _ _ _ _ h1 h2 h3) h4 h5 (by simpa [Nd.count] using h6)
theorem countL_nil : Nd.countL [] = 0 := rfl
theorem countL_one (x : Nd) : Nd.countL [x] = x.count := by simp [Nd.countL]
theorem countL_two (x y : Nd) : Nd.countL [x, y] = x.count + y.count := by simp [Nd.countL]
theorem countL_three (x y z : Nd) : Nd.countL [x, y, z] = x.count + y.count + z.count := by simp [Nd.countL]; omega
set_option maxHeartbeats 8000000 in
theorem primary_ok {s : ByteArray} {l : List Tk} (hg : Tk.good s l) (P : Nd → Prop) (hP : ExP P) (a : Nat) (d : Int) (ha : a < l.length)
    (he : ∀ b, a < b → b < l.length → ACallQ cx 35 [.sl 0 (Tk.rows l), .int .i64 (b : Nat), .int .i64 d] (ruleQ P l b) none) : ACallQ cx 61 [.sl 0 (Tk.rows l), .int .i64 (a : Nat), .int .i64 d] (ruleQ P l a) none := by
  refine ACallQ.wpl (C := cx) T.func_61 (by kernel_rfl) rfl (by rfl) (fun _ => ?_)
  have hl : l.length ≤ 10000000 := by have := Tk.good_len hg; omega
  have w1 : IntKind.i64.wrap ((a : Int) + 1) = ((a + 1 : Nat) : Int) := by rw [wrap64_in (by omega) (by omega)]; omega
  have w2 : IntKind.i64.wrap ((a : Int) + 2) = ((a + 2 : Nat) : Int) := by rw [wrap64_in (by omega) (by omega)]; omega
  have w3 : IntKind.i64.wrap ((a : Int) + 3) = ((a + 3 : Nat) : Int) := by rw [wrap64_in (by omega) (by omega)]; omega
  have w4 : IntKind.i64.wrap ((a : Int) + 4) = ((a + 4 : Nat) : Int) := by rw [wrap64_in (by omega) (by omega)]; omega
  simp [f61, ha]
  refine split2_i (fun e1 => ?_) (fun e1 => ?_) <;> simp [e1, w1, pu]
  · refine callP_i (made_ok l 13 a (a + 1) [] ha (by omega) (by omega) (by omega)) ?_
    simp
    have hk1 : a + 1 < l.length := Tk.good_kind hg ha (by simp [ha]; simp at e1; omega)
    have hsz := Tk.good_size hg ha
    have hla : l.getD a default = l[a] := by simp [ha]
    rw [hla] at hsz
    refine loopK [0, 1, 6, 8, 9] (fun (p : Nat × Int) _ => p.1 ≤ l[a].text.size) (fun p => [(10, .int .i64 (p.1 : Nat))]) (fun p => [[AV.int IntKind.i64 0, AV.str ByteArray.empty, AV.str ByteArray.empty, AV.int IntKind.i64 0, AV.int IntKind.i64 0, AV.int IntKind.i64 0, AV.int IntKind.i64 0, AV.int IntKind.i64 0, AV.sl 1 []], [AV.int IntKind.i64 0, AV.int IntKind.i64 0], (Nd.mk 13 ByteArray.empty ByteArray.empty p.2 (l[a]?.getD default).at_ (endV l (a + 1)) (-1) (-1) []).cells]) (fun _ => []) (fun p => l[a].text.size - p.1) (0, 0) (by simp) (by simp) [] rfl (by simp) ?_
    rintro ⟨i, n⟩ nx g hi - -
    dsimp only at hi
    simp [ha]
    refine split2_i (fun h2 => ?_) (fun h2 => ?_) <;> simp [h2, ha]
    · simp at h2
      simp [h2]
      refine ⟨by kernel_rfl, ?_⟩
      exact againK_i (i + 1, _) g (by dsimp only; omega) (by dsimp only; omega) ⟨by simp [wrap64_i h2 (show (l[a].text.size : Int) ≤ 9223372036854775807 by omega)], by simp⟩ (by simp only [Nd.cells]; simp [ha]; rfl) (by simp)
    · refine callP_i fine_ok ?_
      simp [w1]
      exact ⟨by kernel_rfl, rule_node hP 13 _ _ _ _ _ _ _ [] (a + 1) (by decide) (by decide) (by simp) (by omega) hk1 (by simp [countL_nil]; omega)⟩
  refine callP_i (is_ok _ _ _) ?_
  simp
  refine split2_i (fun e2 => ?_) (fun e2 => ?_) <;> simp [e2, w1, pu]
  · refine callP_i (made_ok l 14 a (a + 1) [] ha (by omega) (by omega) (by omega)) ?_
    simp only [Nd.cells]
    simp [-Nd.fold, -Nd.fold0, -Nd.fold1]
    refine callP_i fine_ok ?_
    simp [w1]
    exact ⟨by kernel_rfl, rule_node hP 14 _ _ _ _ _ _ _ [] (a + 1) (by decide) (by decide) (by simp) (by omega) (isV_lt hg e2) (by simp [countL_nil]; omega)⟩
  clear e2
  refine callP_i (is_ok _ _ _) ?_
  simp
  refine split2_i (fun e2 => ?_) (fun e2 => ?_) <;> simp [e2, w1, pu]
  · refine callP_i (made_ok l 14 a (a + 1) [] ha (by omega) (by omega) (by omega)) ?_
    simp
    refine callP_i fine_ok ?_
    simp [w1]
    exact rule_node hP 14 _ _ _ _ _ _ _ [] (a + 1) (by decide) (by decide) (by simp) (by omega) (isV_lt hg e2) (by simp [countL_nil]; omega)
  clear e2
  refine callP_i (is_ok _ _ _) ?_
  simp
  refine split2_i (fun e2 => ?_) (fun e2 => ?_) <;> simp [e2, w1, pu]
  · refine callP_i (made_ok l 15 a (a + 1) [] ha (by omega) (by omega) (by omega)) ?_
    simp
    refine callP_i fine_ok ?_
    simp [w1]
    exact rule_node hP 15 _ _ _ _ _ _ _ [] (a + 1) (by decide) (by decide) (by simp) (by omega) (isV_lt hg e2) (by simp [countL_nil]; omega)
  clear e2
  refine callP_i (is_ok _ _ _) ?_
  simp
  refine split2_i (fun e2 => ?_) (fun e2 => ?_) <;> simp [e2, w1, pu]
  · refine callP_i (made_ok l 16 a (a + 1) [] ha (by omega) (by omega) (by omega)) ?_
    simp
    refine callP_i fine_ok ?_
    simp [w1]
    exact rule_node hP 16 _ _ _ _ _ _ _ [] (a + 1) (by decide) (by decide) (by simp) (by omega) (isV_lt hg e2) (by simp [countL_nil]; omega)
  clear e2
  refine callP_i (is_ok _ _ _) ?_
  simp
  refine split2_i (fun e2 => ?_) (fun e2 => ?_) <;> simp [e2, pu]
  · have k1 := isV_lt hg e2
    rw [w1]
    refine callP_i (name_ok _ _) ?_
    simp
    cases e3 : nameV l (a + 1) <;> simp [e3, pu]
    · rw [w1]
      refine callP_i (syntax_ok _) ?_
      simp
      exact rule_bad default 0 (by omega)
    have k2 := nameV_lt hg e3
    rw [w2]
    refine callP_i (is_ok _ _ _) ?_
    simp
    cases e4 : isV l (a + 2) ⟨#[40]⟩ <;> simp [e4, pu]
    · rw [w2]
      refine callP_i (syntax_ok _) ?_
      simp
      exact rule_bad default 0 (by omega)
    have k3 := isV_lt hg e4
    rw [w3]
    refine callP_i (is_ok _ _ _) ?_
    simp
    cases e5 : isV l (a + 3) ⟨#[41]⟩ <;> simp [e5, pu]
    · rw [w3]
      refine callP_i (syntax_ok _) ?_
      simp
      exact rule_bad default 0 (by omega)
    have k4 := isV_lt hg e5
    rw [w4]
    refine callP_i (made_ok l 21 a (a + 4) [] ha (by omega) (by omega) (by omega)) ?_
    have c1 : 0 ≤ (a : Int) + 1 := by omega
    have c2 : (a : Int) + 1 < l.length := by omega
    simp only [Nd.cells]
    simp [-Nd.fold, -Nd.fold0, -Nd.fold1, w1, c1, c2]
    refine callP_i fine_ok ?_
    simp [w4]
    exact ⟨by kernel_rfl, rule_node hP 21 _ _ _ _ _ _ _ [] (a + 4) (by decide) (by decide) (by simp) (by omega) k4 (by simp [countL_nil]; omega)⟩
  clear e2
  refine callP_i (is_ok _ _ _) ?_
  simp
  refine split2_i (fun e2 => ?_) (fun e2 => ?_) <;> simp [e2, pu]
  · have k1 := isV_lt hg e2
    rw [w1]
    refine callP_q (he (a + 1) (by omega) k1) ?_
    rintro _ ⟨n, b, w, e, rfl, hw⟩
    simp
    refine split2_i (fun e3 => ?_) (fun e3 => ?_) <;> simp [e3, pu]
    · exact ⟨by kernel_rfl, rule_bad default 0 (by simp at e3; omega)⟩
    obtain ⟨hPn, hb1, hb2, hb3⟩ := hw (by simp at e3; omega)
    have wb : IntKind.i64.wrap ((b : Int) + 1) = ((b + 1 : Nat) : Int) := by rw [wrap64_in (by omega) (by omega)]; omega
    refine callP_i (is_ok _ _ _) ?_
    simp
    cases e4 : isV l b ⟨#[41]⟩ <;> simp [e4, pu, wb]
    · refine callP_i (syntax_ok _) ?_
      simp
      exact rule_bad default 0 (by omega)
    refine callP_i fine_ok ?_
    simp
    exact ⟨by kernel_rfl, rule_good n (b + 1) hPn (by omega) (isV_lt hg e4) (by omega)⟩
  clear e2
  refine callP_i (name_ok _ _) ?_
  simp
  refine split2_i (fun e2 => ?_) (fun e2 => ?_) <;> simp [e2, pu, ha]
  · have k1 := nameV_lt hg e2
    simp only [w1]
    refine callP_i (made_ok l 17 a (a + 1) [] ha (by omega) (by omega) (by omega)) ?_
    simp only [Nd.cells]
    simp [ha, -Nd.fold, -Nd.fold0, -Nd.fold1]
    rw [w1]
    refine callP_i (is_ok _ _ _) ?_
    simp [-Nd.fold, -Nd.fold0, -Nd.fold1]
    cases e4 : isV l (a + 1) ⟨#[40]⟩ <;> simp [e4, pu, w1, -Nd.fold, -Nd.fold0, -Nd.fold1]
    · refine callP_i fine_ok ?_
      simp
      exact ⟨by kernel_rfl, rule_node hP 17 _ _ _ _ _ _ _ [] (a + 1) (by decide) (by decide) (by simp) (by omega) k1 (by simp [countL_nil]; omega)⟩
    have k2 := isV_lt hg e4
    rw [w2]
    refine callP_q (arguments_ok hg hl P (a + 2) d k2 (fun b hb1 hb2 => he b (by omega) hb2)) ?_
    rintro _ ⟨ks, b, w, e, rfl, hw⟩
    simp [-Nd.fold, -Nd.fold0, -Nd.fold1]
    refine split2_i (fun e3 => ?_) (fun e3 => ?_) <;> simp [e3, pu, -Nd.fold, -Nd.fold0, -Nd.fold1]
    · exact ⟨by kernel_rfl, rule_bad default 0 (by simp at e3; omega)⟩
    obtain ⟨hPn, hb1, hb2, hb3⟩ := hw (by simp at e3; omega)
    refine callP_i (end_ok l b (by omega) (by omega) (by omega)) ?_
    simp [-Nd.fold, -Nd.fold0, -Nd.fold1]
    refine callP_i fine_ok ?_
    simp
    exact ⟨by kernel_rfl, rule_node hP 19 _ _ _ _ _ _ _ ks b (by decide) (by decide) hPn (by omega) hb2 (by omega)⟩
  · refine callP_i (syntax_ok _) ?_
    simp
    exact rule_bad default 0 (by omega)
end Go.Proofs.AL
