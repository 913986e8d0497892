/- What the functions that the law SpanBytes reaches compute, and the law (part 4). -/
import Derived.Test.YtijlnfobnlplaaaAlSpanBytes3
namespace Go.Proofs.AL
open Go Go.RowKit Go.Proofs.Try
set_option maxRecDepth 100000
set_option linter.unusedSimpArgs false
set_option linter.unusedVariables false
theorem values_ok (l : List Edt) : ACall cx 29 [.sl 0 (edts l)] (.fn (.func 38) [] [.cptr [.sl 0 (edts l)]]) none := by
  refine ACall.wpc (C := cx) T.func_29 (by kernel_rfl) rfl (by rfl) ?_
  simp [f29]
def valVs (l : List Edt) : List (List AV) := l.map fun e => [.agg (edtV e)]
@[simp] theorem valVs_length (l : List Edt) : (valVs l).length = l.length := by simp [valVs]
theorem valVs_get (l : List Edt) (i : Nat) (h : i < (valVs l).length) : (valVs l)[i] = [.agg (edtV (l[i]'(by simpa using h)))] := by simp [valVs]
theorem valVs_all (l : List Edt) : ∀ v ∈ valVs l, 1 = v.length := by
  intro v hv
  obtain ⟨z, _, rfl⟩ := List.mem_map.1 hv
  rfl
set_option maxHeartbeats 4000000 in
theorem values_seq (l : List Edt) (hl : l.length ≤ 1000000) : IsSeq cx 38 [.cptr [.sl 0 (edts l)]] (valVs l) := by
  refine ⟨⟨f38, _, T.func_38, by kernel_rfl, rfl⟩, fun y k0 J Stop lp hY c lv nx N m hc hJ => ?_⟩
  refine JCall.wpc (C := cx) T.func_38 (by kernel_rfl) rfl (by rfl) (fun hL => ?_)
  clear hL
  simp [f38]
  refine loopK [0, 5, 6] (fun (p : Nat × Obs × Lvs) nx => p.1 ≤ l.length ∧ p.2.1.length = k0 ∧ J p.1 p.2.1 p.2.2 nx lp) (fun p => [(7, .int .i64 (p.1 : Nat))]) (fun p => p.2.1) (fun p => p.2.2) (fun p => l.length - p.1) (0, c, lv) ⟨by simp, hc, hJ⟩ (by simp) [] (by simp) (by simp) ?_
  rintro ⟨i, c1, lv1⟩ nx1 r1 ⟨hi, hc1, hJ1⟩ - -
  dsimp only at hi hc1 hJ1
  simp
  by_cases h4 : i < l.length
  · have w : IntKind.i64.wrap ((i : Int) + 1) = ((i + 1 : Nat) : Int) := by rw [wrap64_in (by omega) (by omega)]; omega
    have hgi : i < (valVs l).length := by simpa using h4
    have hy := hY i hgi c1 (r1 ++ [edtV l[i]]) lv1 nx1
    rw [valVs_get] at hy
    simp [h4, edtV]
    refine yieldP_i (hy _ _ hc1 hJ1) ?_
    rintro b s2 ⟨c2, r2, lv2, nx2, lp2, hc2, e1, e2, e3, e4, hb⟩
    rw [S_ret e1 e2 e3 e4]
    have hcc : c1.length = c2.length := by omega
    rcases hb with ⟨rfl, rfl, hJ2⟩ | ⟨rfl, hS⟩
    · simp
      exact againK_i (i + 1, c2, lv2) _ ⟨h4, hc2, hJ2⟩ (by dsimp only; omega) (by simp [w]) rfl (by simp)
    · simp
      exact ⟨c2, _, lv2, nx2, lp2, hc2, rfl, rfl, rfl, rfl, .inr hS⟩
  · have : i = l.length := by omega
    subst this
    simp
    exact ⟨c1, _, lv1, nx1, lp, hc1, rfl, rfl, rfl, rfl, .inl ⟨rfl, by simpa using hJ1⟩⟩
/-- What has been collected so far, ahead of round i. -/
def ColJ (ob : Obs) (l : List Edt) (i : Nat) (c : Obs) (lv : Lvs) (nx : Nat) : Prop := 3 ≤ nx ∧ ((i = 0 ∧ c = ob ++ [[.sl 1 []]] ∧ lv = [(0, .ty 39)]) ∨ (0 < i ∧ ∃ k, k ≠ 0 ∧ k < nx ∧ c = ob ++ [[.own k i]] ∧ lv = [(k, .row 39 (edts (l.take i))), (0, .ty 39)]))
set_option maxHeartbeats 4000000 in
theorem sorted1_ok (l : List Edt) (hl : l.length = 1) : ACall cx 28 [.fn (.func 38) [] [.cptr [.sl 0 (edts l)]], .fn (.func 30) [] []] (.sl 0 (edts l)) none := by
  refine ACall.wpr (C := cx) 39 T.func_28 (by kernel_rfl) rfl (by rfl) (fun hL => ?_)
  clear hL
  simp [f28]
  refine callP_j (jcallP_in T.func_36 (by kernel_rfl) rfl (by rfl) (fun _ => ?_))
  simp [f36]
  refine callP_j (jcallP_in T.func_41 (by kernel_rfl) rfl (by rfl) (fun _ => ?_))
  simp [f41]
  refine range_seq (valVs l) (ColJ [] l) (by simp) (by simp) (values_seq l (by omega)) (valVs_all l) (by simp) ⟨Nat.le_refl 3, .inl ⟨rfl, rfl, rfl⟩⟩ ?_ ?_
  · rintro y lp1 lp2 i hi c rest lv nx - ⟨hnx, hJ⟩ -
    have hi' : i < l.length := by simpa using hi
    rw [valVs_get]
    have hnx0 : ¬ nx = 0 := by omega
    have hnx0' : ¬ 0 = nx := by omega
    have hsn := edts_snoc (l.take i) l[i]
    rw [← List.take_succ_eq_append_getElem hi'] at hsn
    rcases hJ with ⟨rfl, rfl, rfl⟩ | ⟨h0, k, hk, hkn, rfl, rfl⟩
    · simp [hnx0, hnx0', edtV]
      have hsn' : edts (l.take 1) = [edtV l[0]] := by simpa using hsn.symm
      refine rNext_i [[.own nx 1]] [_] _ rfl rfl rfl ⟨by omega, .inr ⟨by omega, nx, by omega, by omega, rfl, ?_⟩⟩
      rw [hsn']; rfl
    · have hk0 : ¬ 0 = k := by omega
      have hlen : (l.take i).length = i := by simp; omega
      have hmin : min i l.length = i := by omega
      simp [hnx0, hnx0', edtV, hk, hk0, hmin]
      refine ⟨by omega, ?_⟩
      refine rNext_i [[.own nx (i + 1)]] [_] _ rfl rfl rfl ⟨by omega, .inr ⟨by omega, nx, by omega, by omega, rfl, ?_⟩⟩
      rw [← hsn]; rfl
  · rintro c rest lv nx - ⟨hnx, hJ⟩
    rw [valVs_length] at hJ
    rcases hJ with ⟨h0, _⟩ | ⟨h0, k, hk, hkn, rfl, rfl⟩
    · omega
    · have hk0 : ¬ 0 = k := by omega
      rw [List.take_length]
      simp [hk, hk0, hl]
      refine jcallP_in T.func_37 (by kernel_rfl) rfl (by rfl) (fun _ => ?_)
      simp [f37, hk, hk0]
      refine jcallP_in T.func_42 (by kernel_rfl) rfl (by rfl) (fun _ => ?_)
      simp [f42]
      refine loopK [0, 1, 2, 6, 7, 8] (fun (_ : Nat) n => nx = n) (fun _ => []) (fun _ => [.own k 1] :: rest) (fun _ => [(k, .row 39 (edts l)), (0, .ty 39)]) (fun _ => 0) 0 rfl (by simp) [] (by simp) (by simp) ?_
      rintro _ _ g rfl - -
      simp
      refine jcallP_in T.func_43 (by kernel_rfl) rfl (by rfl) (fun _ => ?_)
      simp [f43]
      refine loopK [0, 1, 2, 3, 8] (fun (_ : Nat) n => nx = n) (fun _ => []) (fun _ => [.own k 1] :: rest) (fun _ => [(k, .row 39 (edts l)), (0, .ty 39)]) (fun _ => 0) 0 rfl (by simp) g (by simp) (by simp) ?_
      rintro _ _ g2 rfl - -
      have w1 : IntKind.i64.wrap 1 = 1 := by decide
      simp [w1]
      refine loopK [0, 1, 2, 6, 7, 8] (fun (_ : Nat) n => nx = n) (fun _ => []) (fun _ => [.own k 1] :: rest) (fun _ => [(k, .row 39 (edts l)), (0, .ty 39)]) (fun _ => 0) 0 rfl (by simp) g2 (by simp) (by simp) ?_
      rintro _ _ g3 rfl - -
      simp
      exact hl
theorem sort1_ok (l : List Edt) (hl : l.length = 1) : ACall cx 19 [.sl 0 (edts l)] (.sl 0 (edts l)) none := by
  refine ACall.wpc (C := cx) T.func_19 (by kernel_rfl) rfl (by rfl) ?_
  simp [f19]
  refine callP_i (values_ok l) ?_
  simp
  refine callP_i (sorted1_ok l hl) ?_
  simp
end Go.Proofs.AL
namespace Go.Proofs.AL
open Go Go.RowKit Go.Proofs.Try
set_option maxRecDepth 100000
set_option linter.unusedSimpArgs false
set_option linter.unusedVariables false
def exE : List Edt := [(1, 3, ⟨#[120, 121, 122]⟩)]
abbrev Awake : Prop := ACall cx 7 [] (.bool true) none
set_option maxHeartbeats 4000000 in
theorem awake_ok : Awake := by
  have ht : ∀ e ∈ exE, e.2.2.size ≤ 200 := by decide
  have e0 : [[AV.int .i64 1, .int .i64 3, .str ⟨#[120, 121, 122]⟩]] = edts exE := rfl
  have a1 : appS ⟨#[97, 98, 99, 100]⟩ exE = ⟨#[97, 120, 121, 122, 100]⟩ := by kernel_rfl
  have a2 : eno ((ByteArray.mk #[97, 98, 99, 100]).size : Nat) exE = 0 := by kernel_rfl
  have a3 : invS ⟨#[97, 98, 99, 100]⟩ exE = [(1, 4, ⟨#[98, 99]⟩)] := by kernel_rfl
  have a4 : movS exE 3 = (4, true) := by kernel_rfl
  have e1 : [[AV.int .i64 1, .int .i64 4, .str ⟨#[98, 99]⟩]] = edts [(1, 4, ⟨#[98, 99]⟩)] := rfl
  have a5 : mayB 4 exE = true := by kernel_rfl
  have a6 : mayB 2 exE = false := by kernel_rfl
  refine ACall.wpc (C := cx) T.func_7 (by kernel_rfl) rfl (by rfl) ?_
  simp [f7]
  rw [e0]
  refine callP_i (apply_ok ⟨#[97, 98, 99, 100]⟩ exE (by decide) (by decide) ht) ?_
  rw [a1, a2]
  simp
  refine callP_i (inverse_ok ⟨#[97, 98, 99, 100]⟩ exE (by decide) (by decide) ht) ?_
  rw [a3, a2]
  simp
  refine callP_i (moved_ok exE 3 (by decide) (by decide) ht) ?_
  rw [a4]
  simp
  rw [e1]
  refine callP_i (esame_ok _ _ (by decide)) ?_
  simp
  refine callP_i (check_ok 4 exE (by decide)) ?_
  rw [a5]
  simp
  refine callP_i (check_ok 2 exE (by decide)) ?_
  rw [a6]
  simp
  refine callP_i (sort1_ok exE rfl) ?_
  simp
  rfl
theorem sSame_self (a : List Edt) : decide (a = a) = true := by simp
set_option maxHeartbeats 4000000 in
theorem spanApplies_ok (aw : Awake) (s : ByteArray) (l : List Edt) : ACall cx 3 [.str s, .sl 0 (edts l)] (.bool true) none := by
  refine ACall.wpc (C := cx) T.func_3 (by kernel_rfl) rfl (by rfl) ?_
  simp [f3]
  refine callP_i aw ?_
  simp
  refine callP_i (few_ok l) ?_
  by_cases hf : fewB l = true
  · obtain ⟨hl, ht⟩ := (fewB_iff l).1 hf
    by_cases hs : 3000 < s.size
    · have hs' : (3000 : Int) < s.size := by omega
      simp [hf, hs']
    · have hs' : ¬ (3000 : Int) < s.size := by omega
      simp [hf, hs']
      refine callP_i (apply_ok s l hl (by omega) ht) ?_
      simp
      refine callP_i (rapply_ok s l hl (by omega) ht) ?_
      simp
      refine callP_i (inverse_ok s l hl (by omega) ht) ?_
      simp
      refine callP_i (rinv_ok s l hl (by omega) ht) ?_
      simp
      refine callP_i (check_ok s.size l (by omega)) ?_
      have he : eno s.size l = (if mayB s.size l = true then 0 else 20) := rfl
      simp [← he]
      refine callP_i (esame_ok _ _ (by
        unfold invS
        split
        · rw [← invTo_all]; simp [invTo]; omega
        · simp)) ?_
      simp
  · simp [hf]
end Go.Proofs.AL
namespace Go.Proofs.AL
open Go Go.RowKit Go.Proofs.Try
set_option maxRecDepth 100000
set_option linter.unusedSimpArgs false
set_option linter.unusedVariables false
/-- Where a byte stands then, if it does. -/
def posG (at_ : Int) : Int → List Edt → Option Int
  | m, [] => some (at_ + m)
  | m, x :: l => if x.2.1 ≤ at_ then posG at_ (m + dOf x) l else if x.1 ≤ at_ then none else some (at_ + m)
def optP : Option Int → Int × Bool
  | some v => (v, true)
  | none => (0, false)
theorem mayG_far {n e t : Int} {l : List Edt} (h : mayG n e t l = true) (hn : n ≤ far) : mayG far e t l = true := by
  induction l generalizing e t with
  | nil => rfl
  | cons x l ih =>
    simp only [mayG, Bool.and_eq_true, decide_eq_true_eq] at h ⊢
    obtain ⟨⟨⟨⟨h1, h2⟩, h3⟩, h4⟩, h5⟩ := h
    exact ⟨⟨⟨⟨h1, h2⟩, h3⟩, by omega⟩, ih h5⟩
theorem movG_late (at_ : Int) (l : List Edt) : ∀ (n0 e t m n : Int), mayG n0 e t l = true → at_ < t → movG at_ m n l = (n, true) := by
  induction l with
  | nil => intros; rfl
  | cons x l ih =>
    intro n0 e t m n h ht
    simp only [mayG, Bool.and_eq_true, decide_eq_true_eq] at h
    obtain ⟨⟨⟨⟨h1, h2⟩, h3⟩, h4⟩, h5⟩ := h
    simp only [movG]
    rw [if_neg (by omega), if_neg (by omega)]
    exact ih _ _ _ _ _ h5 (by omega)
theorem movG_pos (at_ : Int) (l : List Edt) : ∀ (n0 e t m : Int), mayG n0 e t l = true → 0 ≤ at_ → at_ ≤ 1000000 → -e ≤ m → e ≤ at_ → m + 200 * l.length ≤ 1000000 → (∀ x ∈ l, x.2.2.size ≤ 200) → movG at_ m (at_ + m) l = optP (posG at_ m l) := by
  induction l with
  | nil => intros; rfl
  | cons x l ih =>
    intro n0 e t m h h0 h1 hm he hs ht
    simp only [mayG, Bool.and_eq_true, decide_eq_true_eq] at h
    obtain ⟨⟨⟨⟨g1, g2⟩, g3⟩, g4⟩, g5⟩ := h
    have htx := ht x List.mem_cons_self
    have hlen : (x :: l).length = l.length + 1 := rfl
    simp only [movG, posG]
    by_cases c1 : x.2.1 ≤ at_
    · rw [if_pos c1, if_pos c1]
      have hd : dOf x = x.2.2.size - (x.2.1 - x.1) := rfl
      rw [wrap64_in (by omega) (by omega)]
      exact ih _ _ _ _ g5 h0 h1 (by omega) c1 (by omega) (fun y hy => ht y (List.mem_cons_of_mem _ hy))
    · rw [if_neg c1, if_neg c1]
      by_cases c2 : x.1 ≤ at_
      · rw [if_pos c2, if_pos c2]; rfl
      · rw [if_neg c2, if_neg c2, movG_late at_ l _ _ _ _ _ g5 (by omega)]; rfl
theorem posG_low (at_ : Int) (l : List Edt) : ∀ (n0 e t m v : Int), mayG n0 e t l = true → e ≤ at_ → posG at_ m l = some v → e + m ≤ v := by
  induction l with
  | nil => intro n0 e t m v _ he h; simp only [posG, Option.some.injEq] at h; omega
  | cons x l ih =>
    intro n0 e t m v h he hp
    simp only [mayG, Bool.and_eq_true, decide_eq_true_eq] at h
    obtain ⟨⟨⟨⟨g1, g2⟩, g3⟩, g4⟩, g5⟩ := h
    simp only [posG] at hp
    by_cases c1 : x.2.1 ≤ at_
    · rw [if_pos c1] at hp
      have hd : dOf x = x.2.2.size - (x.2.1 - x.1) := rfl
      have := ih _ _ _ _ _ g5 c1 hp
      omega
    · rw [if_neg c1] at hp
      by_cases c2 : x.1 ≤ at_
      · rw [if_pos c2] at hp; cases hp
      · rw [if_neg c2] at hp; cases hp; omega
theorem posG_mono (a b : Int) (hab : a < b) (l : List Edt) : ∀ (n0 e t m v w : Int), mayG n0 e t l = true → posG a m l = some v → posG b m l = some w → v < w := by
  induction l with
  | nil => intro n0 e t m v w _ h1 h2; simp only [posG, Option.some.injEq] at h1 h2; omega
  | cons x l ih =>
    intro n0 e t m v w h h1 h2
    simp only [mayG, Bool.and_eq_true, decide_eq_true_eq] at h
    obtain ⟨⟨⟨⟨g1, g2⟩, g3⟩, g4⟩, g5⟩ := h
    have hd : dOf x = x.2.2.size - (x.2.1 - x.1) := rfl
    simp only [posG] at h1 h2
    by_cases c1 : x.2.1 ≤ a
    · rw [if_pos c1] at h1
      rw [if_pos (by omega)] at h2
      exact ih _ _ _ _ _ _ g5 h1 h2
    · rw [if_neg c1] at h1
      by_cases c2 : x.1 ≤ a
      · rw [if_pos c2] at h1; cases h1
      · rw [if_neg c2] at h1
        cases h1
        by_cases c3 : x.2.1 ≤ b
        · rw [if_pos c3] at h2
          have := posG_low b l _ _ _ _ _ g5 c3 h2
          omega
        · rw [if_neg c3] at h2
          by_cases c4 : x.1 ≤ b
          · rw [if_pos c4] at h2; cases h2
          · rw [if_neg c4] at h2; cases h2; omega
theorem bo_app_l {a b : ByteArray} {i : Nat} (h : i < a.size) : (a ++ b).data[i]? = a.data[i]? := by
  rw [ByteArray.data_append, Array.getElem?_append_left (by simpa using h)]
theorem bo_app_r {a b : ByteArray} {i : Nat} (h : a.size ≤ i) : (a ++ b).data[i]? = b.data[i - a.size]? := by
  rw [ByteArray.data_append, Array.getElem?_append_right (by simpa using h)]
  simp
theorem bo_ext {s : ByteArray} {k n i : Nat} (hn : n ≤ s.size) (h : k + i < n) : (s.extract k n).data[i]? = s.data[k + i]? := by
  have e : s.data.size = s.size := rfl
  rw [ByteArray.data_extract, Array.getElem?_extract]
  rw [if_pos (by rw [e]; omega)]
/-- The byte at a place stands at the place where it is told to. -/
theorem posG_byte (s : ByteArray) (a : Nat) (l : List Edt) : ∀ (k : Nat) (t m v : Int), mayG s.size k t l = true → k ≤ a → a < s.size → posG a m l = some v → ∃ o : Nat, v = k + m + o ∧ o < (appP s k l).size ∧ (appP s k l).data[o]? = s.data[a]? := by
  induction l with
  | nil =>
    intro k t m v _ hk ha h
    simp only [posG, Option.some.injEq] at h
    refine ⟨a - k, by omega, ?_, ?_⟩
    · simp only [appP, ByteArray.size_extract]; omega
    · simp only [appP]; rw [bo_ext (Nat.le_refl _) (by omega)]; congr 1; omega
  | cons x l ih =>
    intro k t m v h hk ha hp
    simp only [mayG, Bool.and_eq_true, decide_eq_true_eq] at h
    obtain ⟨⟨⟨⟨g1, g2⟩, g3⟩, g4⟩, g5⟩ := h
    obtain ⟨⟨x, y, tx⟩, rfl⟩ : ∃ q, q = x := ⟨_, rfl⟩
    dsimp only at g1 g2 g3 g4 g5
    obtain ⟨x, rfl⟩ := Int.eq_ofNat_of_zero_le (show 0 ≤ x by omega)
    obtain ⟨y, rfl⟩ := Int.eq_ofNat_of_zero_le (show 0 ≤ y by omega)
    simp only [posG] at hp
    have hs1 : (s.extract k x).size = x - k := by rw [ByteArray.size_extract]; omega
    simp only [appP, Int.toNat_natCast]
    by_cases c1 : (y : Int) ≤ a
    · rw [if_pos c1] at hp
      obtain ⟨o, h1, h2, h3⟩ := ih y _ _ _ g5 (by omega) ha hp
      simp only [dOf] at h1
      refine ⟨x - k + (tx.size + o), by omega, ?_, ?_⟩
      · rw [ByteArray.size_append, ByteArray.size_append]; omega
      · rw [bo_app_r (by omega), bo_app_r (by omega), ← h3]; congr 1; omega
    · rw [if_neg c1] at hp
      by_cases c2 : (x : Int) ≤ a
      · rw [if_pos c2] at hp; cases hp
      · rw [if_neg c2] at hp; cases hp
        refine ⟨a - k, by omega, ?_, ?_⟩
        · rw [ByteArray.size_append]; omega
        · rw [bo_app_l (by omega), bo_ext (by omega) (by omega)]; congr 1; omega
theorem posG_end (s : ByteArray) (l : List Edt) : ∀ (k : Nat) (t m : Int), mayG s.size k t l = true → k ≤ s.size → posG s.size m l = some (k + m + (appP s k l).size) := by
  induction l with
  | nil =>
    intro k t m _ hk
    simp only [posG, appP, ByteArray.size_extract, Option.some.injEq]; omega
  | cons x l ih =>
    intro k t m h hk
    simp only [mayG, Bool.and_eq_true, decide_eq_true_eq] at h
    obtain ⟨⟨⟨⟨g1, g2⟩, g3⟩, g4⟩, g5⟩ := h
    obtain ⟨⟨x, y, tx⟩, rfl⟩ : ∃ q, q = x := ⟨_, rfl⟩
    dsimp only at g1 g2 g3 g4 g5
    obtain ⟨x, rfl⟩ := Int.eq_ofNat_of_zero_le (show 0 ≤ x by omega)
    obtain ⟨y, rfl⟩ := Int.eq_ofNat_of_zero_le (show 0 ≤ y by omega)
    have hs1 : (s.extract k x).size = x - k := by rw [ByteArray.size_extract]; omega
    simp only [posG, appP, Int.toNat_natCast]
    rw [if_pos g4, ih y _ _ g5 (by omega), ByteArray.size_append, ByteArray.size_append, hs1]
    simp only [dOf, Option.some.injEq]
    omega
theorem byteAt_bo {a b : ByteArray} {i j : Nat} (hi : i < a.size) (hj : j < b.size) (h : a.data[i]? = b.data[j]?) : byteAt a (i : Int) = byteAt b (j : Int) := by
  have h1 : a.data[i]? = some (a[i]'hi) := by rw [Array.getElem?_eq_getElem (show i < a.data.size from hi)]; rfl
  have h2 : b.data[j]? = some (b[j]'hj) := by rw [Array.getElem?_eq_getElem (show j < b.data.size from hj)]; rfl
  rw [h1, h2] at h
  unfold byteAt
  rw [dif_pos (by simpa using hi), dif_pos (by simpa using hj)]
  simp only [Int.toNat_natCast]
  rw [Option.some.inj h]
/-- What Moved says, where the edits may be done to the text. -/
theorem movS_pos (s : ByteArray) (l : List Edt) (hl : l.length ≤ 60) (ht : ∀ e ∈ l, e.2.2.size ≤ 200) (hs : s.size ≤ 1000) (hm : mayB s.size l = true) (a : Nat) (ha : a ≤ s.size) : movS l a = optP (posG a 0 l) := by
  unfold movS
  have hf : mayB far l = true := mayG_far hm (by unfold far; omega)
  rw [if_neg (by rw [hf]; simp)]
  have := movG_pos a l s.size 0 (-1) 0 hm (by omega) (by omega) (by omega) (by omega) (by omega) ht
  rw [Int.add_zero] at this
  exact this
structure Sb where
  i : Nat
  last : Int
def SbOk (s : ByteArray) (l : List Edt) (p : Sb) (_ : Nat) : Prop := p.i ≤ s.size ∧ -1 ≤ p.last ∧ p.last ≤ 1000000 ∧ ∀ (a : Nat) (v : Int), p.i ≤ a → posG a 0 l = some v → p.last < v
set_option maxHeartbeats 4000000 in
theorem spanBytes_ok (aw : Awake) (s : ByteArray) (l : List Edt) : ACall cx 4 [.str s, .sl 0 (edts l)] (.bool true) none := by
  refine ACall.wpc (C := cx) T.func_4 (by kernel_rfl) rfl (by rfl) ?_
  simp [f4]
  refine callP_i aw ?_
  simp
  refine callP_i (few_ok l) ?_
  by_cases hf : fewB l = true
  · obtain ⟨hl, ht⟩ := (fewB_iff l).1 hf
    by_cases hs : 1000 < s.size
    · have hs' : (1000 : Int) < s.size := by omega
      simp [hf, hs']
    · have hs' : ¬ (1000 : Int) < s.size := by omega
      simp [hf, hs']
      refine callP_i (apply_ok s l hl (by omega) ht) ?_
      by_cases hm : mayB s.size l = true
      · have ha : appS s l = appP s 0 l := by simp [appS, hm]
        have hsz : (appP s 0 l).size ≤ 1000000 := by
          have := appP_size s 0 l s.size 0 (-1) rfl rfl hm ht
          omega
        simp [eno, hm, ha]
        refine loopK [0, 1, 7] (SbOk s l) (fun p => [(10, .int .i64 (p.i : Nat)), (9, .int .i64 p.last)]) (fun _ => []) (fun _ => []) (fun p => s.size - p.i) ⟨0, -1⟩ ⟨by simp, by simp, by simp, ?_⟩ (by simp) [] (by simp) (by simp) ?_
        · intro a v _ hp
          have := posG_low a l _ _ _ _ _ hm (by omega) hp
          dsimp only
          omega
        rintro ⟨i, last⟩ nx g ⟨hi, hl1, hl2, hbl⟩ - -
        dsimp only at hi hl1 hl2 hbl
        simp
        by_cases h4 : i < s.size
        · have w : IntKind.i64.wrap ((i : Int) + 1) = ((i + 1 : Nat) : Int) := by rw [wrap64_in (by omega) (by omega)]; omega
          simp [h4]
          refine callP_i (moved_ok l i hl (by unfold far; omega) ht) ?_
          rw [movS_pos s l hl ht (by omega) hm i (by omega)]
          cases hp : posG i 0 l with
          | none =>
            simp [optP]
            exact againK_i ⟨i + 1, last⟩ _ ⟨h4, hl1, hl2, fun a v h1 h2 => hbl a v (by dsimp only at h1; omega) h2⟩ (by dsimp only; omega) (by simp [w]) rfl (by simp)
          | some v =>
            have hlv := hbl i v (Nat.le_refl _) hp
            obtain ⟨o, h1, h2, h3⟩ := posG_byte s i l 0 (-1) 0 v hm (by omega) h4 hp
            obtain rfl : v = o := by omega
            have hby := byteAt_bo h2 h4 h3
            have n1 : ¬ (o : Int) ≤ last := by omega
            have n2 : ¬ (appP s 0 l).size ≤ o := by omega
            simp [optP, h4, n1, n2, h2, hby]
            refine ⟨by kernel_rfl, ?_⟩
            exact againK_i ⟨i + 1, o⟩ _ ⟨h4, by dsimp only; omega, by dsimp only; omega, fun a v g1 g2 => posG_mono i a (by dsimp only at g1; omega) l _ _ _ _ _ _ hm hp g2⟩ (by dsimp only; omega) (by simp [w]) rfl (by simp)
        · have : i = s.size := by omega
          subst this
          simp
          refine callP_i (moved_ok l s.size hl (by unfold far; omega) ht) ?_
          rw [movS_pos s l hl ht (by omega) hm s.size (by omega), posG_end s l 0 (-1) 0 hm (by omega)]
          simp [optP]
      · simp [eno, hm]
  · simp [hf]
end Go.Proofs.AL
namespace Go.Proofs.AL
open Go Go.RowKit Go.Proofs.Ytijlnfobnlplaaa
set_option linter.unusedVariables false
set_option linter.unusedSimpArgs false
/-! ## What a law's argument reads as -/
/-- All cells of a block. -/
def mAll (w : World) : Nat → Nat := fun b => match w.heap[b]? with
  | some (.cells c _ _) => c.size
  | _ => 0
theorem mAll_end (w : World) (b : Nat) (h : w.heap.size ≤ b) : mAll w b = 0 := by
  unfold mAll
  rw [Array.getElem?_eq_none h]
theorem mAll_cell {w : World} {b o : Nat} {v : Value} (h : w.cell? ⟨b, o, none⟩ = some v) : o < mAll w b := by
  unfold World.cell? at h
  unfold mAll
  cases hb : w.heap[b]? with
  | none => rw [hb] at h; cases h
  | some ob =>
    rw [hb] at h
    cases ob with
    | cells c T q => exact (Array.getElem?_eq_some_iff.1 h).1
    | _ => cases h
theorem spot_none {w : World} {a : Addr} {v : Value} (h : w.cell? a = some v) : a.spot = none := by
  unfold World.cell? at h
  split at h
  · split at h
    · cases h
    · rename_i hs
      cases hsp : a.spot with
      | none => rfl
      | some _ => rw [hsp] at hs; exact absurd rfl hs
  · cases h
/-- Whatever reads as data of type t is a value with these cells, of a size that the datum tells, and as the reach allows. -/
def ToldAt {α : Type} (P : Program) (t : TypeId) (cells : α → List AV) (sz : α → Nat) (ok : α → Prop) (fuel : Nat) : Prop :=
  ∀ {H : Type} {enc : TypeId × Value → H} {w : World} {held : Bool} {cs : List Value} {z : DataW H × List MemPlace},
    DataW.trod enc P w 0 (fun _ => true) held fuel t cs = some z → (∀ q ∈ DataW.weights P t z.1, q ≤ 140737488351232) → ∃ x, VL (gh1 (mAll w)) w (cells x) cs ∧ ok x ∧ sz x ≤ Rows.uptoBulk z.1
def Told {α : Type} (P : Program) (t : TypeId) (cells : α → List AV) (sz : α → Nat) (ok : α → Prop) : Prop := ∀ fuel, ToldAt P t cells sz ok fuel
theorem mapM_get {α β : Type} {f : α → Option β} : ∀ {l : List α} {xs : List β}, l.mapM f = some xs → xs.length = l.length ∧ ∀ (i : Nat) (a : α), l[i]? = some a → f a = xs[i]? := by
  intro l
  induction l with
  | nil => intro xs h; rw [List.mapM_nil] at h; cases h; exact ⟨rfl, fun i a hi => by simp at hi⟩
  | cons b l ih =>
    intro xs h
    rw [List.mapM_cons] at h
    cases hy : f b with
    | none => rw [hy] at h; cases h
    | some y =>
      rw [hy] at h
      cases hys : l.mapM f with
      | none => rw [hys] at h; cases h
      | some ys =>
        rw [hys] at h
        cases h
        obtain ⟨hl, hg⟩ := ih hys
        refine ⟨by rw [List.length_cons, List.length_cons, hl], fun i a hi => ?_⟩
        cases i with
        | zero => rw [List.getElem?_cons_zero] at hi ⊢; injection hi with hi; subst hi; exact hy
        | succ i => rw [List.getElem?_cons_succ] at hi ⊢; exact hg i a hi
theorem cells_at {w : World} {base : Nat} {a : Addr} {n : Nat} {cs : List Value} (h : w.cells? base a n = some cs) : cs.length = n ∧ ∀ i u, cs[i]? = some u → w.cell? (a.add i) = some u := by
  unfold World.cells? at h
  split at h
  · obtain ⟨hl, hg⟩ := mapM_get h
    rw [List.length_range] at hl
    refine ⟨hl, fun i u hi => ?_⟩
    have hlt : i < n := by
      rcases Nat.lt_or_ge i n with h1 | h1
      · exact h1
      · rw [List.getElem?_eq_none (by omega)] at hi; cases hi
    rw [hg i i (by rw [List.getElem?_range hlt])]; exact hi
  · cases h
theorem bulk_one {H : Type} (d : DataW H) : 1 ≤ Rows.uptoBulk d := by
  cases d with
  | lit l => cases l <;> simp [Rows.uptoBulk]
  | nil => simp [Rows.uptoBulk]
  | ptr d => simp [Rows.uptoBulk]
  | slice elems spare => simp [Rows.uptoBulk]
  | agg parts => simp [Rows.uptoBulk]
  | iface u d => simp [Rows.uptoBulk]
  | map entries => simp [Rows.uptoBulk]
  | held t => simp [Rows.uptoBulk]
theorem told_int {P : Program} {t : TypeId} {k : IntKind} (hu : P.underlying t = some (.int k)) : Told P t (fun x : Int => [.int k x]) (fun _ => 1) (fun x => (Lit.int k x).wf = true) := by
  intro fuel H enc w held cs z h _
  obtain ⟨n, rfl, rfl, hw⟩ := DataW.trod_int hu h
  exact ⟨n, .cons (.int k n) rfl .nil, hw, bulk_one _⟩
theorem told_bool {P : Program} {t : TypeId} (hu : P.underlying t = some .bool) : Told P t (fun x : Bool => [.bool x]) (fun _ => 1) (fun _ => True) := by
  intro fuel H enc w held cs z h _
  obtain ⟨n, rfl, rfl⟩ := DataW.trod_bool hu h
  exact ⟨n, .cons (.bool n) rfl .nil, trivial, bulk_one _⟩
theorem told_string {P : Program} {t : TypeId} (hu : P.underlying t = some .string) : Told P t (fun s : ByteArray => [.str s]) (fun s => s.size + 1) (fun s => s.size ≤ 140737488351232) := by
  intro fuel H enc w held cs z h hq
  obtain ⟨s, rfl, rfl, hs⟩ := DataW.trod_string hu h
  refine ⟨s, .cons (.str s) rfl .nil, ?_, ?_⟩
  · have := hq s.data.toList.length (by simp [DataW.weights])
    simpa using this
  · simp [Rows.uptoBulk]
def sumOf {α : Type} (sz : α → Nat) : List α → Nat
  | [] => 0
  | x :: l => sz x + sumOf sz l
theorem sumOf_le {α : Type} (sz : α → Nat) {l : List α} {x : α} (h : x ∈ l) : sz x ≤ sumOf sz l := by
  induction l with
  | nil => cases h
  | cons y l ih =>
    rw [sumOf]
    cases h with
    | head => exact Nat.le_add_right _ _
    | tail _ h => exact Nat.le_trans (ih h) (Nat.le_add_left _ _)
theorem rows_told {α : Type} {P : Program} {e : TypeId} {cells : α → List AV} {sz : α → Nat} {ok : α → Prop} {n : Nat} (ht : ToldAt P e cells sz ok n) {H : Type} {enc : TypeId × Value → H} {w : World} {held : Bool} (get : Nat → Option (List Value)) :
    ∀ (elems : List (DataW H × List MemPlace)) (k : Nat), (∀ i, i < elems.length → (get (k + i)).bind (DataW.trod enc P w 0 (fun _ => true) held n e) = elems[i]?) → (∀ q ∈ DataW.weightsAll P e (elems.map (·.1)), q ≤ 140737488351232) →
    ∃ l : List α, l.length = elems.length ∧ (∀ i x, l[i]? = some x → ∃ cs, get (k + i) = some cs ∧ VL (gh1 (mAll w)) w (cells x) cs) ∧ (∀ x ∈ l, ok x) ∧ sumOf sz l ≤ Rows.uptoBulkAll (elems.map (·.1)) := by
  intro elems
  induction elems with
  | nil => intro k _ _; exact ⟨[], rfl, (fun i x hi => (by simp at hi)), (fun x hx => (by cases hx)), Nat.zero_le _⟩
  | cons y elems ih =>
    intro k h hq
    rw [List.map_cons, DataW.weightsAll] at hq
    have h0 := h 0 (by simp)
    rw [List.getElem?_cons_zero, Nat.add_zero] at h0
    cases hc : get k with
    | none => rw [hc] at h0; cases h0
    | some cs =>
      rw [hc] at h0
      obtain ⟨x, hx, hox, hsx⟩ := ht h0 (fun q hm => hq q (List.mem_append_left _ hm))
      obtain ⟨l, hl, hg, ho, hs⟩ := ih (k + 1) (fun i hi => by
        have := h (i + 1) (by rw [List.length_cons]; omega)
        rw [List.getElem?_cons_succ] at this
        rw [← this, show k + 1 + i = k + (i + 1) by omega]) (fun q hm => hq q (List.mem_append_right _ hm))
      refine ⟨x :: l, by rw [List.length_cons, List.length_cons, hl], fun i u hi => ?_, fun u hu => ?_, ?_⟩
      · cases i with
        | zero => rw [List.getElem?_cons_zero] at hi; injection hi with hi; subst hi; exact ⟨cs, hc, hx⟩
        | succ i => rw [List.getElem?_cons_succ] at hi; obtain ⟨c, h1, h2⟩ := hg i u hi; exact ⟨c, by rw [show k + (i + 1) = k + 1 + i by omega]; exact h1, h2⟩
      · cases hu with
        | head => exact hox
        | tail _ hu => exact ho u hu
      · rw [sumOf, List.map_cons, Rows.uptoBulkAll]; omega
/-- A slice: c: how many cells an element has; B: how many bytes. -/
theorem told_slice_at {α : Type} {P : Program} {t e : TypeId} {cells : α → List AV} {sz : α → Nat} {ok : α → Prop} (c B : Nat) (hc0 : 0 < c) (hu : P.underlying t = some (.slice e)) (hc : P.cellsOf e = c) (hb : P.bytesOf e = B) (hcl : ∀ x, (cells x).length = c) (fuel : Nat) (he : ∀ n, n < fuel → ToldAt P e cells sz ok n) :
    ToldAt P t (fun l : List α => [.sl 0 (l.map cells)]) (fun l => sumOf sz l + 1) (fun l => l.length * B ≤ 140737488351232 ∧ ∀ x ∈ l, ok x) fuel := by
  intro H enc w held cs z h hq
  rcases DataW.trod_slice hu h with ⟨rfl, rfl⟩ | ⟨a, len, cap, elems, rest, n, rfl, rfl, rfl, _, hlc, hcm, hlen, hel, _, _⟩
  · exact ⟨[], .cons (.sl0 (.inl rfl)) rfl .nil, ⟨by simp, (fun x hx => (by cases hx))⟩, bulk_one _⟩
  · simp only [DataW.weights, hu] at hq
    obtain ⟨l, hl, hg, ho, hs⟩ := rows_told (he n (Nat.lt_succ_self n)) (H := H) (enc := enc) (w := w) (held := held) (fun i => w.cells? 0 (a.add (i * P.cellsOf e)) (P.cellsOf e)) elems 0
      (fun i hi => by rw [Nat.zero_add]; exact hel i (by omega)) (fun q hm => hq q (List.mem_cons_of_mem _ (List.mem_append_left _ hm)))
    have hll : l.length = len := by omega
    refine ⟨l, .cons ?_ rfl .nil, ⟨?_, ho⟩, ?_⟩
    · rcases Nat.eq_zero_or_pos l.length with h0 | h0
      · have hnil : l = [] := List.eq_nil_of_length_eq_zero h0
        subst hnil
        have : len = 0 := by omega
        subst this
        exact .sl0 (.inl rfl)
      · have key : ∀ (j i : Nat) (el : List AV) (x : AV), (l.map cells)[j]? = some el → el[i]? = some x → ∃ u, w.cell? ⟨a.block, a.off + (j * c + i), none⟩ = some u ∧ u.oneCell' = true ∧ V (gh1 (mAll w)) w x u ∧ a.spot = none := by
          intro j i el x hj hi
          rw [List.getElem?_map] at hj
          obtain ⟨p, hp, rfl⟩ := Option.map_eq_some_iff.1 hj
          obtain ⟨cs, h1, h2⟩ := hg j p hp
          rw [Nat.zero_add] at h1
          obtain ⟨g1, g2⟩ := cells_at h1
          have hil : i < cs.length := by have := (List.getElem?_eq_some_iff.1 hi).1; rw [h2.1] at this; exact this
          obtain ⟨v1, v2⟩ := h2.2 i x cs[i] hi (List.getElem?_eq_getElem hil)
          have hcell := g2 i cs[i] (List.getElem?_eq_getElem hil)
          rw [hc, Addr.add_add] at hcell
          have hsp := spot_none hcell
          by_cases h00 : j * c + i = 0
          · have e0 : a.add (j * c + i) = a := by unfold Addr.add; rw [if_pos h00]
            rw [e0] at hcell hsp
            have ea : (⟨a.block, a.off + (j * c + i), none⟩ : Addr) = a := by rw [h00, Nat.add_zero, ← hsp]
            exact ⟨_, by rw [ea]; exact hcell, v2, v1, hsp⟩
          · have e0 : a.add (j * c + i) = ⟨a.block, a.off + (j * c + i), none⟩ := by unfold Addr.add; rw [if_neg h00]
            rw [e0] at hcell
            have h0' : 0 < l.length := h0
            -- the row's own place: of its first cell
            have hp0 : l[0]? = some l[0] := List.getElem?_eq_getElem h0'
            obtain ⟨cs0, k1, k2⟩ := hg 0 _ hp0
            obtain ⟨q1, q2⟩ := cells_at k1
            have hl0 : 0 < cs0.length := by rw [q1, hc]; exact hc0
            have hz := q2 0 _ (List.getElem?_eq_getElem hl0)
            have ez : (a.add ((0 + 0) * P.cellsOf e)).add 0 = a := by unfold Addr.add; simp
            rw [ez] at hz
            exact ⟨_, hcell, v2, v1, spot_none hz⟩
        have hsp : a.spot = none := by
          have hel0 : (l.map cells)[0]? = some (cells l[0]) := by rw [List.getElem?_map, List.getElem?_eq_getElem h0]; rfl
          have hc1 : 0 < (cells l[0]).length := by rw [hcl]; exact hc0
          obtain ⟨_, _, _, _, h4⟩ := key 0 0 _ _ hel0 (List.getElem?_eq_getElem hc1)
          exact h4
        have ea : a = ⟨a.block, a.off, none⟩ := by cases a; simp at hsp; subst hsp; rfl
        rw [ea]
        refine .sl (sz := c) (fun j i => (w.cell? ⟨a.block, a.off + (j * c + i), none⟩).getD undef) (by omega) (by simp; omega) hlc hcm hc0 (fun el hel => ?_) (.inl rfl) (fun j i el x hj hi => ?_) (fun j i el x hj hi => ?_)
        · obtain ⟨p, _, rfl⟩ := List.mem_map.1 hel
          exact hcl p
        · obtain ⟨u, h1, h2, h3, _⟩ := key j i el x hj hi
          exact ⟨mAll_cell h1, by rw [h1]; rfl, by rw [h1]; exact h2⟩
        · obtain ⟨u, h1, h2, h3, _⟩ := key j i el x hj hi
          rw [h1]; exact h3
    · have := hq ((elems.length + rest.length) * P.bytesOf e) (by simp)
      rw [hb] at this
      rw [hl]
      exact Nat.le_trans (Nat.mul_le_mul_right _ (Nat.le_add_right _ _)) this
    · simp only [Rows.uptoBulk]; omega
theorem told_slice {α : Type} {P : Program} {t e : TypeId} {cells : α → List AV} {sz : α → Nat} {ok : α → Prop} (c B : Nat) (hc0 : 0 < c) (hu : P.underlying t = some (.slice e)) (hc : P.cellsOf e = c) (hb : P.bytesOf e = B) (hcl : ∀ x, (cells x).length = c) (he : Told P e cells sz ok) :
    Told P t (fun l : List α => [.sl 0 (l.map cells)]) (fun l => sumOf sz l + 1) (fun l => l.length * B ≤ 140737488351232 ∧ ∀ x ∈ l, ok x) := fun fuel => told_slice_at c B hc0 hu hc hb hcl fuel (fun n _ => he n)
theorem ToldAt.map {α β : Type} {P : Program} {t : TypeId} {cells : α → List AV} {sz : α → Nat} {ok : α → Prop} {fuel : Nat} (h : ToldAt P t cells sz ok fuel) {cells' : β → List AV} {sz' : β → Nat} {ok' : β → Prop} (f : α → β) (h1 : ∀ x, cells' (f x) = cells x) (h2 : ∀ x, sz' (f x) ≤ sz x) (h3 : ∀ x, ok x → ok' (f x)) : ToldAt P t cells' sz' ok' fuel := by
  intro H enc w held cs z h' hq
  obtain ⟨x, a, b, c⟩ := h h' hq
  exact ⟨f x, by rw [h1]; exact a, h3 x b, Nat.le_trans (h2 x) c⟩
/-- A field's part of a struct's cells. -/
theorem told_field {α : Type} {P : Program} {t : TypeId} {cells : α → List AV} {sz : α → Nat} {ok : α → Prop} {n : Nat} (ht : ToldAt P t cells sz ok n) {H : Type} {enc : TypeId × Value → H} {w : World} {held : Bool} {cs : List Value} {off k : Nat} {y : DataW H × List MemPlace} (hk : P.cellsOf t = k)
    (h : DataW.trod enc P w 0 (fun _ => true) held n t ((cs.drop off).take (P.cellsOf t)) = some y) (hq : ∀ q ∈ DataW.weights P t y.1, q ≤ 140737488351232) : ∃ x, VL (gh1 (mAll w)) w (cells x) ((cs.drop off).take k) ∧ ok x ∧ sz x ≤ Rows.uptoBulk y.1 := by
  rw [hk] at h
  exact ht h hq
/-- An argument, by its reading and its weights. -/
theorem told_arg {α : Type} {P : Program} {t : TypeId} {cells : α → List AV} {sz : α → Nat} {ok : α → Prop} (ht : Told P t cells sz ok) {H : Type} {enc : TypeId × Value → H} {w : World} {held : Bool} {ts : List TypeId} {ds : List (DataW H)} {j : Nat} {v : Value} {z : DataW H} {ps : List MemPlace}
    (h : DataW.Trod enc P w 0 (fun _ => true) held t v z ps) (hsz : (DataW.weightsEach P ts ds).all (· ≤ reachBytes) = true) (hj : ts[j]? = some t) (hd : ds[j]? = some z) : ∃ x, VL (gh1 (mAll w)) w (cells x) v.cells.toList ∧ ok x ∧ sz x ≤ Rows.uptoBulk z := by
  obtain ⟨fuel, hf⟩ := h
  obtain ⟨x, h1, h2, h3⟩ := ht fuel hf (fun q hq => by
    have := List.all_eq_true.1 hsz q (DataW.weights_mem_each hj hd q hq)
    exact of_decide_eq_true this)
  exact ⟨x, h1, h2, h3⟩
theorem vl_one {G : Gh} {w : World} {x : AV} {v : Value} (h : VL G w [x] v.cells.toList) (hn : ∀ cs, v ≠ .agg cs) : V G w x v := by
  cases v with
  | agg cs => exact absurd rfl (hn cs)
  | _ => exact (h.2 0 _ _ rfl rfl).1
theorem vl_struct {G : Gh} {w : World} {xs : List AV} {v : Value} (h : VL G w xs v.cells.toList) (hn : xs.length ≠ 1) : V G w (.agg xs) v := by
  cases v with
  | agg cs => exact VL.agg h
  | _ => exact absurd h.1 hn
theorem vl_agg {G : Gh} {w : World} {xs : List AV} {cs : Array Value} (h : VL G w xs (Value.agg cs).cells.toList) : V G w (.agg xs) (.agg cs) := VL.agg h
/-- The law's call: true, and what there was is as it was. -/
theorem law_calls {C : Cx} {f : FuncId} {args : List AV} (h : ACall C f args (.bool true) none) {W : World} {vs : Array Value} (hgi : C.GI W) (hl : vs.size = args.length) (hV : ∀ (i : Nat) (x : AV) (v : Value), args[i]? = some x → vs[i]? = some v → V (gh1 (mAll W)) W x v) :
    Calls C.P f vs W fun e w' => e = .returned (.bool true) ∧ Below W.heap.size W w' :=
  (h.2 (mAll W) W vs hgi (fun b hb => mAll_end W b hb) hl hV).mono (fun e w' ⟨v, m', he, hb, _, _, hv, _⟩ => ⟨by rw [he]; cases hv; rfl, hb⟩)
end Go.Proofs.AL
namespace Go.Proofs.AL
open Go Go.RowKit Go.Proofs.Try Go.Proofs.Ytijlnfobnlplaaa
set_option maxRecDepth 100000
set_option linter.unusedVariables false
def iok (n : Int) : Prop := (Lit.int .i64 n).wf = true
theorem told_edt : Told prog 39 (fun q : Edt => edtV q) (fun q => 1) (fun q => iok q.1 ∧ iok q.2.1 ∧ q.2.2.size ≤ 140737488351232) := by
  intro fuel H enc w held cs z h hq
  obtain ⟨xs, n, rfl, rfl, hl, hlen, hf⟩ := DataW.trod_struct Try.underlying39 h
  have et : prog.cellsOf 39 = 3 := by kernel_rfl
  rw [et] at hl
  simp only [DataW.weights, Try.underlying39] at hq
  match cs, hl with
  | [v0, v1, v2], _ =>
    match xs, hlen with
    | [y0, y1, y2], _ =>
      simp only [List.map_cons, List.map_nil, DataW.weightsEach, List.append_nil] at hq
      obtain ⟨x0, g0, o0, s0⟩ := told_field ((@told_int prog 3 .i64 Try.underlying3) n) (k := 1) (off := 0) (by kernel_rfl) (hf 0 _ rfl) (fun q hm => hq q (by simp [hm]))
      obtain ⟨x1, g1, o1, s1⟩ := told_field ((@told_int prog 3 .i64 Try.underlying3) n) (k := 1) (off := 1) (by kernel_rfl) (hf 1 _ rfl) (fun q hm => hq q (by simp [hm]))
      obtain ⟨x2, g2, o2, s2⟩ := told_field ((@told_string prog 9 Try.underlying9) n) (k := 1) (off := 2) (by kernel_rfl) (hf 2 _ rfl) (fun q hm => hq q (by simp [hm]))
      refine ⟨(x0, x1, x2), ?_, ⟨o0, o1, o2⟩, ?_⟩
      · have := ((g0.append g1).append g2)
        simpa [edtV] using this
      · simp only [Rows.uptoBulk, List.map_cons, List.map_nil, Rows.uptoBulkAll]
        first | omega | (simp; omega)
end Go.Proofs.AL
