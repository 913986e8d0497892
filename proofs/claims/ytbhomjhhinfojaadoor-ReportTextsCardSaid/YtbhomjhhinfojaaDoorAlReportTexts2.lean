/- What the functions that the law ReportTexts reaches compute, and the law (part 2). -/
import Derived.Test.YtbhomjhhinfojaaDoorAlReportTexts1
namespace Go.Proofs.AL
open Go Go.RowKit Go.Proofs.Tryd
set_option maxRecDepth 100000
set_option linter.unusedSimpArgs false
set_option linter.unusedVariables false
/-- A contract that is told of values, for values that lead to no memory. -/
theorem ACall.ofCalls {C : Cx} {f : FuncId} {args : List AV} {res : AV} (vs0 : Array Value) (he : EntersF C.P f) (hv : args.map plainV? = vs0.toList.map some)
    (h : ∀ w, Calls C.P f vs0 w fun e w' => ∃ r, e = .returned r ∧ Below w.heap.size w w' ∧ ∀ G, V G w' res r) : ACall C f args res none := by
  refine ⟨he, fun m w vs hgi hz hl hV => ?_⟩
  have hlen : args.length = vs0.size := by have := congrArg List.length hv; simpa using this
  have e : vs = vs0 := by
    apply Array.ext
    · omega
    · intro i h1 h2
      have ha : i < args.length := by omega
      have hp : plainV? args[i] = some vs0[i] := by
        have := congrArg (·[i]?) hv
        simpa [ha, h2] using this
      exact (hV i args[i] vs[i] (List.getElem?_eq_getElem ha) (Array.getElem?_eq_getElem h1)).plain hp
  subst e
  refine (h w).mono (fun e w' ⟨r, h1, h2, h3⟩ => ⟨r, m, h1, h2, fun _ _ => rfl, fun b hb => hz b (Nat.le_trans h2.size hb), h3 _, fun i e he => by cases he⟩)
def ix (s : ByteArray) (c : UInt8) : Int := Lib.indexByte s.data.toList c
theorem index_ok (s : ByteArray) (c : UInt8) : ACall cx 34 [.str s, .str ⟨#[c]⟩] (.int .i64 (ix s c)) none :=
  ACall.ofCalls #[.string s, .string ⟨#[c]⟩] ⟨_, _, T.func_34, by kernel_rfl, rfl⟩ rfl fun w => (Tryd.stringslite_Index_one s c w).mono fun e w' ⟨h, hw⟩ => ⟨_, h, by subst hw; exact Below.refl _ _, fun G => .int _ _⟩
theorem contains_ok (s : ByteArray) (c : UInt8) : ACall cx 22 [.str s, .str ⟨#[c]⟩] (.bool (decide (0 ≤ ix s c))) none :=
  ACall.ofCalls #[.string s, .string ⟨#[c]⟩] ⟨_, _, T.func_22, by kernel_rfl, rfl⟩ rfl fun w => (Tryd.strings_Contains_one s c w).mono fun e w' ⟨h, hw⟩ => ⟨_, h, by subst hw; exact Below.refl _ _, fun G => .bool _⟩
theorem ix_lt (s : ByteArray) (c : UInt8) (h : 0 ≤ ix s c) : ∃ o : Nat, ix s c = o ∧ o < s.size ∧ s.data.toList[o]? = some c ∧ ∀ k, k < o → s.data.toList[k]? ≠ some c := by
  obtain ⟨o, ho⟩ := Int.eq_ofNat_of_zero_le h
  obtain ⟨h1, h2⟩ := Lib.indexByte_some (l := s.data.toList) (c := c) (o := o) ho
  refine ⟨o, ho, ?_, h1, h2⟩
  have := (List.getElem?_eq_some_iff.1 h1).1
  simpa using this
/-- Ahead of the first space, and behind it. -/
def fstS (s : ByteArray) : ByteArray := if 0 ≤ ix s 32 then s.extract 0 (ix s 32).toNat else s
def sndS (s : ByteArray) : ByteArray := if 0 ≤ ix s 32 then s.extract ((ix s 32).toNat + 1) s.size else .empty
set_option maxHeartbeats 2000000 in
theorem lcut_ok (s : ByteArray) (hs : s.size ≤ 1000000) : ACall cx 29 [.str s, .str ⟨#[32]⟩] (.tup [.str (fstS s), .str (sndS s), .bool (decide (0 ≤ ix s 32))]) none := by
  refine ACall.wpc (C := cx) T.func_29 (by kernel_rfl) rfl (by rfl) ?_
  simp [f29]
  refine callP_i (index_ok s 32) ?_
  by_cases h : 0 ≤ ix s 32
  · obtain ⟨o, ho, hl, _, _⟩ := ix_lt s 32 h
    have w1 : IntKind.i64.wrap ((o : Int) + 1) = ((o + 1 : Nat) : Int) := by rw [wrap64_in (by omega) (by omega)]; omega
    have z : (ByteArray.mk #[32]).size = 1 := rfl
    have l1 : (o : Int) ≤ s.size := by omega
    have l2 : (o : Int) + 1 ≤ s.size := by omega
    have l3 : o ≤ s.size := by omega
    have l4 : o + 1 ≤ s.size := by omega
    simp [ho, z, w1, l1, l2, l3, l4]
    refine ⟨by omega, by kernel_rfl, ?_⟩
    simp [fstS, sndS, ho]
  · simp [h, fstS, sndS]
    rfl
set_option maxHeartbeats 2000000 in
theorem cut_ok (s : ByteArray) (hs : s.size ≤ 1000000) : ACall cx 20 [.str s, .str ⟨#[32]⟩] (.tup [.str (fstS s), .str (sndS s), .bool (decide (0 ≤ ix s 32))]) none := by
  refine ACall.wpc (C := cx) T.func_20 (by kernel_rfl) rfl (by rfl) ?_
  simp [f20]
  refine callP_i (lcut_ok s hs) ?_
  simp
/-- Where a text stands first. -/
def idxS : List ByteArray → ByteArray → Int
  | [], _ => -1
  | y :: l, x => if x = y then 0 else if idxS l x < 0 then -1 else idxS l x + 1
theorem idxS_ge (l : List ByteArray) (x : ByteArray) : -1 ≤ idxS l x := by
  induction l with
  | nil => simp [idxS]
  | cons y l ih => simp only [idxS]; split <;> (try split) <;> omega
theorem idxS_lt (l : List ByteArray) (x : ByteArray) : idxS l x < l.length := by
  induction l with
  | nil => simp [idxS]
  | cons y l ih => simp only [idxS, List.length_cons]; split <;> (try split) <;> omega
def IdxTo (l : List ByteArray) (x : ByteArray) (i : Nat) (_ : Nat) : Prop := i ≤ l.length ∧ ((idxS (l.drop i) x < 0 ∧ idxS l x = -1) ∨ (0 ≤ idxS (l.drop i) x ∧ idxS l x = idxS (l.drop i) x + i))
set_option maxHeartbeats 2000000 in
theorem sindex_ok (l : List ByteArray) (x : ByteArray) (hl : l.length ≤ 1000000) : ACall cx 21 [.sl 0 (strs l), .str x] (.int .i64 (idxS l x)) none := by
  refine ACall.wpc (C := cx) T.func_21 (by kernel_rfl) rfl (by rfl) ?_
  simp [f21]
  have hge := idxS_ge l x
  refine loopK [0, 1, 6, 7] (IdxTo l x) (fun i => [(8, .int .i64 (i : Nat))]) (fun _ => []) (fun _ => []) (fun i => l.length - i) 0 ⟨by simp, by simp; omega⟩ (by simp) [] rfl (by simp) ?_
  rintro i nx g ⟨hi, hr⟩ - -
  simp
  by_cases h4 : i < l.length
  · have w : IntKind.i64.wrap ((i : Int) + 1) = ((i + 1 : Nat) : Int) := by rw [wrap64_in (by omega) (by omega)]; omega
    have hd : l.drop i = l[i] :: l.drop (i + 1) := List.drop_eq_getElem_cons h4
    have key : idxS (l.drop i) x = if x = l[i] then 0 else if idxS (l.drop (i + 1)) x < 0 then -1 else idxS (l.drop (i + 1)) x + 1 := by rw [hd]; rfl
    have := idxS_ge (l.drop (i + 1)) x
    generalize idxS (l.drop i) x = u at key hr
    by_cases he : x = l[i]
    · rw [if_pos he] at key
      have hr : idxS l x = i := by omega
      simp [h4, ← he, hr]
    · rw [if_neg he] at key
      simp [h4, he]
      refine againK_i (i + 1) g ⟨h4, ?_⟩ (by omega) (by simp [w]) (by simp) (by simp)
      generalize idxS (l.drop (i + 1)) x = v at key this ⊢
      split at key <;> omega
  · have : i = l.length := by omega
    subst this
    rw [List.drop_length] at hr
    have h0 : idxS [] x = -1 := rfl
    rw [h0] at hr
    have hr : idxS l x = -1 := by omega
    simp [hr]
/-- A line's conflict. -/
def kOf (s : ByteArray) : Int := idxS kinds1L (fstS s) + 1
def readB (s : ByteArray) : Bool := decide (1 ≤ kOf s) && !(decide (0 ≤ ix s 32) && decide (sndS s = .empty)) && !decide (0 ≤ ix s 10)
def readK (s : ByteArray) : Int := if readB s = true then kOf s else 0
def readT (s : ByteArray) : ByteArray := if readB s = true then sndS s else .empty
set_option maxHeartbeats 2000000 in
theorem read_ok (s : ByteArray) (hs : s.size ≤ 1000000) : ACall cx 8 [.str s] (.tup [.agg [.int .i64 (readK s), .str (readT s)], .bool (readB s)]) none := by
  refine ACall.wpg (C := cx) gls gls_ok T.func_8 (by kernel_rfl) rfl (by rfl) (fun _ => ?_)
  simp [f8]
  refine callP_i (cut_ok s hs) ?_
  simp
  refine callP_i (sindex_ok kinds1L (fstS s) (by decide)) ?_
  have h1 := idxS_ge kinds1L (fstS s)
  have h2 := idxS_lt kinds1L (fstS s)
  have h3 : kinds1L.length = 5 := rfl
  rw [h3] at h2
  have w : IntKind.i64.wrap (idxS kinds1L (fstS s) + 1) = kOf s := by rw [wrap64_in (by omega) (by omega)]; rfl
  have e : (⟨#[]⟩ : ByteArray) = .empty := rfl
  simp [w]
  by_cases c1 : kOf s < 1
  · have c1' : ¬ 1 ≤ kOf s := by omega
    have rb : readB s = false := by simp [readB, c1']
    simp [c1, readK, readT, rb]
    try rfl
  · have c1' : 1 ≤ kOf s := by omega
    by_cases c2 : 0 ≤ ix s 32 ∧ sndS s = .empty
    · have rb : readB s = false := by simp [readB, c2]
      simp [c1, c2.1, c2.2, e, readK, readT, rb]
      try rfl
    · have c2' : (decide (0 ≤ ix s 32) && decide (sndS s = .empty)) = false := by simpa using fun h => (fun h2 => c2 ⟨h, h2⟩)
      have go : ∀ b, b = decide (0 ≤ ix s 32) → True := fun _ _ => trivial
      by_cases c3 : 0 ≤ ix s 32
      · have c4 : ¬ sndS s = .empty := fun h => c2 ⟨c3, h⟩
        simp [c1, c3, c4, e]
        refine callP_i (contains_ok s 10) ?_
        by_cases c5 : 0 ≤ ix s 10
        · have rb : readB s = false := by simp [readB, c5]
          simp [c5, readK, readT, rb]
          try rfl
        · have rb : readB s = true := by simp [readB, c1', c4, c5]
          simp [c5, readK, readT, rb]
      · simp [c1, c3, e]
        refine callP_i (contains_ok s 10) ?_
        by_cases c5 : 0 ≤ ix s 10
        · have rb : readB s = false := by simp [readB, c5]
          simp [c5, readK, readT, rb]
          try rfl
        · have rb : readB s = true := by simp [readB, c1', c3, c5]
          simp [c5, readK, readT, rb]
end Go.Proofs.AL
namespace Go.Proofs.AL
open Go Go.RowKit Go.Proofs.Tryd
set_option maxRecDepth 100000
set_option linter.unusedSimpArgs false
set_option linter.unusedVariables false
theorem words_ok : ACall cx 23 [] (.sl 0 (strs kindsL)) none := by
  refine ACall.wpc (C := cx) T.func_23 (by kernel_rfl) rfl (by rfl) ?_
  have r6 : List.range 6 = [0, 1, 2, 3, 4, 5] := rfl
  simp [f23, r6]
  rfl
theorem kindsL_get (n : Int) (h1 : 1 ≤ n) (h2 : n ≤ 5) : wordS kindsL n = kindsL.getD n.toNat .empty := by
  unfold wordS
  have : kindsL.length = 6 := rfl
  rw [if_neg (by rw [this]; omega)]
theorem kinds_ne (n : Int) (h1 : 1 ≤ n) (h2 : n ≤ 5) : wordS kindsL n ≠ .empty := by
  obtain ⟨k, rfl⟩ := Int.eq_ofNat_of_zero_le (show 0 ≤ n by omega)
  rw [kindsL_get _ h1 h2]
  have : k = 1 ∨ k = 2 ∨ k = 3 ∨ k = 4 ∨ k = 5 := by omega
  rcases this with rfl | rfl | rfl | rfl | rfl <;> decide
theorem kinds_out (n : Int) (h : n < 1 ∨ 5 < n) : wordS kindsL n = .empty := by
  unfold wordS
  have : kindsL.length = 6 := rfl
  rw [if_pos (by rw [this]; omega)]
set_option maxHeartbeats 2000000 in
theorem rconflict_ok (k : Int) (key : ByteArray) (hk : key.size ≤ 2000000) : ACall cx 11 [.agg [.int .i64 k, .str key]] (.str (confS k key)) none := by
  refine ACall.wpc (C := cx) T.func_11 (by kernel_rfl) rfl (by rfl) ?_
  have e : (⟨#[]⟩ : ByteArray) = .empty := rfl
  simp [f11]
  by_cases h1 : k < 1
  · simp [h1, confS, kinds_out k (.inl h1)]
    try rfl
  · by_cases h2 : 5 < k
    · simp [h1, h2, confS, kinds_out k (.inr h2)]
      try rfl
    · obtain ⟨n, rfl⟩ := Int.eq_ofNat_of_zero_le (show 0 ≤ k by omega)
      have h3 : n < kindsL.length := by show n < 6; omega
      have hw : wordS kindsL n = kindsL[n] := by rw [kindsL_get _ (by omega) (by omega)]; simp [h3]
      have hne := kinds_ne n (by omega) (by omega)
      have hsz := wkinds_size n
      simp [h1, h2]
      refine callP_i words_ok ?_
      simp [h3]
      refine ⟨by kernel_rfl, ?_⟩
      rw [← hw, e]
      have h32 : (ByteArray.mk #[32]).size = 1 := rfl
      by_cases h4 : key = .empty
      · simp [h4, confS]
      · simp [h4, confS, hne]
        omega
set_option maxHeartbeats 2000000 in
theorem routcome_ok (k : Int) : ACall cx 13 [.int .i64 k] (.str (wordS outsL k)) none := by
  refine ACall.wpc (C := cx) T.func_13 (by kernel_rfl) rfl (by rfl) ?_
  have hl : outsL.length = 5 := rfl
  have e0 : [[AV.str ⟨#[]⟩], [.str ⟨#[109, 101, 114, 103, 101, 100]⟩], [.str ⟨#[99, 111, 110, 102, 108, 105, 99, 116, 115]⟩], [.str ⟨#[116, 101, 120, 116, 117, 97, 108]⟩], [.str ⟨#[116, 111, 111, 32, 108, 97, 114, 103, 101]⟩]] = strs outsL := rfl
  have r5 : List.range 5 = [0, 1, 2, 3, 4] := rfl
  simp [f13, r5]
  by_cases h1 : k < 1
  · simp [h1, wordS]
    try rfl
  · by_cases h2 : 4 < k
    · have h3 : 5 ≤ k := by omega
      simp [h1, h2, wordS, hl, h3]
      try rfl
    · obtain ⟨n, rfl⟩ := Int.eq_ofNat_of_zero_le (show 0 ≤ k by omega)
      have h3 : n < outsL.length := by rw [hl]; omega
      have h4 : ¬ (5 : Int) ≤ n := by omega
      rw [e0]
      simp [h1, h2, h3]
      simp [wordS, h1, hl, h4, List.getElem?_eq_getElem h3]
/-- What would be the key, if the kind were this. -/
def keyOf (k : Int) (s : ByteArray) : ByteArray := if (wordS kindsL k).size + 1 < s.size then s.extract ((wordS kindsL k).size + 1) s.size else .empty
def nlB (s : ByteArray) : Bool := decide (0 ≤ ix s 10)
def hit (s : ByteArray) (k : Int) : Prop := confS k (keyOf k s) = s
end Go.Proofs.AL
namespace Go.Proofs.AL
open Go Go.RowKit Go.Proofs.Tryd
set_option maxRecDepth 100000
set_option linter.unusedSimpArgs false
set_option linter.unusedVariables false
theorem idxB_app (c : UInt8) (l2 : List UInt8) : ∀ l1 : List UInt8, c ∉ l1 → Lib.indexByte (l1 ++ c :: l2) c = l1.length
  | [], _ => by simp [Lib.indexByte]
  | b :: l1, h => by
    have h1 : ¬ b = c := fun e => h (by simp [e])
    have ih := idxB_app c l2 l1 (fun hm => h (List.mem_cons_of_mem _ hm))
    simp only [List.cons_append, Lib.indexByte, ih, beq_iff_eq, if_neg h1, List.length_cons]
    rw [if_neg (by omega)]
    omega
theorem idxB_none (c : UInt8) : ∀ l1 : List UInt8, c ∉ l1 → Lib.indexByte l1 c = -1
  | [], _ => by simp [Lib.indexByte]
  | b :: l1, h => by
    have h1 : ¬ b = c := fun e => h (by simp [e])
    have ih := idxB_none c l1 (fun hm => h (List.mem_cons_of_mem _ hm))
    simp only [Lib.indexByte, ih, beq_iff_eq, if_neg h1]
    simp
theorem ext_app_l (a b : ByteArray) (k : Nat) (h : k ≤ a.size) : (a ++ b).extract 0 k = a.extract 0 k := by
  rw [ByteArray.extract_append]
  have : k - a.size = 0 := by omega
  simp [this]
theorem ext_app_r (a b : ByteArray) : (a ++ b).extract a.size (a ++ b).size = b := by
  rw [ByteArray.extract_append, ByteArray.size_append]
  have h1 : a.extract a.size (a.size + b.size) = ByteArray.empty := by
    apply ByteArray.ext; simp
  have h2 : a.size - a.size = 0 := by omega
  have h3 : a.size + b.size - a.size = b.size := by omega
  rw [h1, h2, h3]
  simp
theorem ba_toList_inj {a b : ByteArray} (h : a.data.toList = b.data.toList) : a = b := by
  apply ByteArray.ext
  exact Array.toList_inj.1 h
theorem cut_at (s : ByteArray) (o : Nat) (c : UInt8) (h : s.data.toList[o]? = some c) : s = s.extract 0 o ++ ⟨#[c]⟩ ++ s.extract (o + 1) s.size := by
  have hl := (List.getElem?_eq_some_iff.1 h).1
  have hlt : o < s.size := by simpa using hl
  have e1 : s.extract o (o + 1) = ⟨#[c]⟩ := by
    apply ba_toList_inj
    have hg : s.data.toList[o] = c := (List.getElem?_eq_some_iff.1 h).2
    have : (s.extract o (o + 1)).data.toList = [s.data.toList[o]] := by
      rw [ByteArray.data_extract, Array.toList_extract, List.extract_eq_take_drop, List.drop_eq_getElem_cons hl]
      have : o + 1 - o = 1 := by omega
      rw [this]
      rfl
    rw [this, hg]
  have e2 : s.extract 0 s.size = s := by simp
  have e3 := ByteArray.extract_eq_extract_append_extract (a := s) (i := 0) (k := s.size) o (by omega) (by omega)
  have e4 := ByteArray.extract_eq_extract_append_extract (a := s) (i := o) (k := s.size) (o + 1) (by omega) (by omega)
  rw [e2, e4, e1] at e3
  rw [ByteArray.append_assoc]
  exact e3
theorem kinds_nosp (j : Nat) (h1 : 1 ≤ j) (h2 : j ≤ 5) : (32 : UInt8) ∉ (wordS kindsL j).data.toList ∧ idxS kinds1L (wordS kindsL j) + 1 = j := by
  have : j = 1 ∨ j = 2 ∨ j = 3 ∨ j = 4 ∨ j = 5 := by omega
  rcases this with rfl | rfl | rfl | rfl | rfl <;> decide
theorem idx_kinds (x : ByteArray) (j : Nat) (h1 : 1 ≤ j) (h : idxS kinds1L x + 1 = j) : x = wordS kindsL j ∧ j ≤ 5 := by
  simp only [kinds1L, idxS] at h
  by_cases c1 : x = ⟨#[116, 101, 120, 116]⟩
  · rw [if_pos c1] at h
    have : j = 1 := by omega
    subst this
    exact ⟨c1.trans (by decide), by omega⟩
  · by_cases c2 : x = ⟨#[111, 114, 100, 101, 114]⟩
    · simp only [if_neg c1, if_pos c2] at h
      have : j = 2 := by simp at h; omega
      subst this
      exact ⟨c2.trans (by decide), by omega⟩
    · by_cases c3 : x = ⟨#[103, 111, 110, 101]⟩
      · simp only [if_neg c1, if_neg c2, if_pos c3] at h
        have : j = 3 := by simp at h; omega
        subst this
        exact ⟨c3.trans (by decide), by omega⟩
      · by_cases c4 : x = ⟨#[114, 101, 112, 108, 97, 121]⟩
        · simp only [if_neg c1, if_neg c2, if_neg c3, if_pos c4] at h
          have : j = 4 := by simp at h; omega
          subst this
          exact ⟨c4.trans (by decide), by omega⟩
        · by_cases c5 : x = ⟨#[116, 121, 112, 101, 115]⟩
          · simp only [if_neg c1, if_neg c2, if_neg c3, if_neg c4, if_pos c5] at h
            have : j = 5 := by simp at h; omega
            subst this
            exact ⟨c5.trans (by decide), by omega⟩
          · simp only [if_neg c1, if_neg c2, if_neg c3, if_neg c4, if_neg c5] at h
            simp at h
            omega
theorem sz32 : (ByteArray.mk #[32]).size = 1 := rfl
theorem glue_ix (w key : ByteArray) (h : (32 : UInt8) ∉ w.data.toList) : ix (w ++ ⟨#[32]⟩ ++ key) 32 = w.size := by
  unfold ix
  have : (w ++ ⟨#[32]⟩ ++ key).data.toList = w.data.toList ++ 32 :: key.data.toList := by
    rw [ByteArray.data_append, ByteArray.data_append]
    simp
  rw [this, idxB_app _ _ _ h]
  simp
theorem glue_fst (w key : ByteArray) (h : (32 : UInt8) ∉ w.data.toList) : fstS (w ++ ⟨#[32]⟩ ++ key) = w := by
  unfold fstS
  rw [glue_ix w key h, if_pos (by omega), Int.toNat_natCast, ByteArray.append_assoc, ext_app_l _ _ _ (Nat.le_refl _)]
  simp
theorem glue_snd (w key : ByteArray) (h : (32 : UInt8) ∉ w.data.toList) : sndS (w ++ ⟨#[32]⟩ ++ key) = key := by
  unfold sndS
  rw [glue_ix w key h, if_pos (by omega), Int.toNat_natCast]
  have := ext_app_r (w ++ ⟨#[32]⟩) key
  rw [ByteArray.size_append (a := w), sz32] at this
  exact this
theorem bare_ix (w : ByteArray) (h : (32 : UInt8) ∉ w.data.toList) : ix w 32 = -1 := idxB_none _ _ h
/-- A kind is hit just where the line says so. -/
theorem hit_iff (s : ByteArray) (hnl : ¬ 0 ≤ ix s 10) (j : Nat) (h1 : 1 ≤ j) (h2 : j ≤ 5) : (hit s j ↔ readB s = true ∧ kOf s = j) ∧ (hit s j → keyOf j s = sndS s) := by
  obtain ⟨n1, n2⟩ := kinds_nosp j h1 h2
  have hne := kinds_ne j (by omega) (by omega)
  have fwd : hit s j → (readB s = true ∧ kOf s = j) ∧ keyOf j s = sndS s := by
    intro hh
    have hh : confS j (keyOf j s) = s := hh
    by_cases hk : keyOf j s = .empty
    · have hs : wordS kindsL j = s := by rw [← hh]; simp [confS, hk]
      rw [hs] at n1 n2
      have b := bare_ix s n1
      have f : fstS s = s := by unfold fstS; rw [b]; simp
      have k : kOf s = j := by unfold kOf; rw [f]; exact n2
      refine ⟨⟨?_, k⟩, ?_⟩
      · simp [readB, k, b, hnl]; omega
      · rw [hk]; unfold sndS; rw [b]; simp
    · have hs : wordS kindsL j ++ ⟨#[32]⟩ ++ keyOf j s = s := by
        rw [confS, if_neg (by simp [hne, hk])] at hh
        exact hh
      generalize keyOf j s = key at hk hs ⊢
      have f := glue_fst _ key n1
      have g := glue_snd _ key n1
      rw [hs] at f g
      have k : kOf s = j := by unfold kOf; rw [f]; exact n2
      refine ⟨⟨?_, k⟩, g.symm⟩
      simp [readB, k, g, hk, hnl]; omega
  refine ⟨⟨fun hh => (fwd hh).1, ?_⟩, fun hh => (fwd hh).2⟩
  rintro ⟨hr, hk⟩
  obtain ⟨hf, _⟩ := idx_kinds (fstS s) j h1 hk
  simp only [readB, Bool.and_eq_true, Bool.not_eq_true', decide_eq_true_eq] at hr
  obtain ⟨⟨r1, r2⟩, r3⟩ := hr
  show confS j (keyOf j s) = s
  by_cases hc : 0 ≤ ix s 32
  · obtain ⟨o, ho, hlt, hat, _⟩ := ix_lt s 32 hc
    have e0 : fstS s = s.extract 0 o := by unfold fstS; rw [if_pos hc, ho]; rfl
    have e1 : sndS s = s.extract (o + 1) s.size := by unfold sndS; rw [if_pos hc, ho]; rfl
    have hsn : ¬ sndS s = .empty := by
      intro e
      simp [hc, e] at r2
    have hcut := cut_at s o 32 hat
    have hsz : (wordS kindsL j).size = o := by
      rw [← hf, e0, ByteArray.size_extract]; omega
    have hss : o + 1 < s.size := by
      rcases Nat.lt_or_ge (o + 1) s.size with h | h
      · exact h
      · exfalso
        apply hsn
        rw [e1]
        apply ByteArray.ext
        simp
        have : s.data.size = s.size := rfl
        omega
    have hko : keyOf j s = sndS s := by
      unfold keyOf
      rw [hsz, if_pos hss, e1]
    rw [hko, confS, if_neg (by simp [hne, hsn]), ← hf, e0, e1]
    exact hcut.symm
  · have e0 : fstS s = s := by unfold fstS; rw [if_neg hc]
    rw [e0] at hf
    have hko : keyOf j s = .empty := by
      unfold keyOf
      rw [← hf, if_neg (by omega)]
    rw [hko, confS, if_pos (.inr rfl)]
    exact hf.symm
theorem read_hit (s : ByteArray) (hnl : ¬ 0 ≤ ix s 10) (j : Nat) (h1 : 1 ≤ j) (h2 : j ≤ 5) (hh : hit s j) : readB s = true ∧ readK s = j ∧ readT s = keyOf j s := by
  obtain ⟨h3, h4⟩ := hit_iff s hnl j h1 h2
  obtain ⟨a, b⟩ := h3.1 hh
  exact ⟨a, by simp [readK, a, b], by simp [readT, a, h4 hh]⟩
theorem read_miss (s : ByteArray) (hnl : ¬ 0 ≤ ix s 10) (h : ∀ j : Nat, 1 ≤ j → j ≤ 5 → ¬ hit s j) : readB s = false ∧ readK s = 0 ∧ readT s = .empty := by
  have hb : readB s = false := by
    cases hr : readB s with
    | false => rfl
    | true =>
      exfalso
      have hr' := hr
      simp only [readB, Bool.and_eq_true, Bool.not_eq_true', decide_eq_true_eq] at hr'
      obtain ⟨⟨r1, r2⟩, r3⟩ := hr'
      obtain ⟨j, hj⟩ := Int.eq_ofNat_of_zero_le (show 0 ≤ kOf s by omega)
      obtain ⟨_, h5⟩ := idx_kinds (fstS s) j (by omega) hj
      exact h j (by omega) h5 ((hit_iff s hnl j (by omega) h5).1.2 ⟨hr, hj⟩)
  exact ⟨hb, by simp [readK, hb], by simp [readT, hb]⟩
theorem byteAt_get {s : ByteArray} {i : Nat} (h : i < s.size) : ∃ c, s.data.toList[i]? = some c ∧ byteAt s (i : Int) = (c.toNat : Int) := by
  refine ⟨s[i], ?_, ?_⟩
  · have : i < s.data.toList.length := by simpa using h
    rw [List.getElem?_eq_getElem this]
    rfl
  · unfold byteAt
    rw [dif_pos (by simpa using h)]
    rfl
end Go.Proofs.AL
namespace Go.Proofs.AL
open Go Go.RowKit Go.Proofs.Tryd
set_option maxRecDepth 100000
set_option linter.unusedSimpArgs false
set_option linter.unusedVariables false
def NoNlTo (s : ByteArray) (i : Nat) : Prop := ∀ j, j < i → s.data.toList[j]? ≠ some 10
theorem nl_here {s : ByteArray} {i : Nat} (h : i < s.size) : byteAt s (i : Int) = 10 ↔ s.data.toList[i]? = some 10 := by
  obtain ⟨c, h1, h2⟩ := byteAt_get h
  rw [h1, h2]
  constructor
  · intro e
    have : c.toNat = 10 := by omega
    have : c = 10 := UInt8.toNat_inj.1 (by rw [this]; rfl)
    rw [this]
  · intro e; cases e; rfl
theorem nl_none {s : ByteArray} (h : NoNlTo s s.size) : ¬ 0 ≤ ix s 10 := by
  intro hc
  obtain ⟨o, ho, hlt, hat, _⟩ := ix_lt s 10 hc
  exact h o hlt hat
theorem nl_some {s : ByteArray} {i : Nat} (h : s.data.toList[i]? = some 10) : 0 ≤ ix s 10 := by
  rcases Int.lt_or_le (ix s 10) 0 with h1 | h1
  · have h2 := Lib.indexByte_ge s.data.toList 10
    exact absurd h (Lib.indexByte_none (l := s.data.toList) (c := 10) (by show ix s 10 = -1; have : -1 ≤ ix s 10 := h2; omega) i)
  · exact h1
theorem keyOf_size (k : Int) (s : ByteArray) : (keyOf k s).size ≤ s.size := by
  unfold keyOf; split
  · rw [ByteArray.size_extract]; omega
  · simp
set_option maxHeartbeats 4000000 in
theorem rread_ok (s : ByteArray) (hs : s.size ≤ 1000000) : ACall cx 9 [.str s] (.tup [.agg [.int .i64 (readK s), .str (readT s)], .bool (readB s)]) none := by
  refine ACall.wpc (C := cx) T.func_9 (by kernel_rfl) rfl (by rfl) ?_
  have e : (⟨#[]⟩ : ByteArray) = .empty := rfl
  simp [f9]
  refine loopK [0, 2, 3] (fun i _ => i ≤ s.size ∧ NoNlTo s i) (fun i => [(4, .int .i64 (i : Nat))]) (fun _ => [[.int .i64 0, .str .empty]]) (fun _ => []) (fun i => s.size - i) 0 ⟨by simp, fun j h => by omega⟩ (by simp) [] (by simp) (by simp) ?_
  rintro i nx g ⟨hi, hno⟩ - -
  simp
  by_cases h4 : i < s.size
  · have w : IntKind.i64.wrap ((i : Int) + 1) = ((i + 1 : Nat) : Int) := by rw [wrap64_in (by omega) (by omega)]; omega
    by_cases h5 : byteAt s i = 10
    · have hb := nl_some ((nl_here h4).1 h5)
      have rb : readB s = false := by simp [readB, hb]
      simp [h4, h5, readK, readT, rb]
    · have h5b : (byteAt s i == 10) = false := by simp [h5]
      simp [h4, h5b]
      refine againK_i (i + 1) g ⟨h4, ?_⟩ (by omega) (by simp [w]) (by simp) (by simp)
      intro j hj
      rcases Nat.lt_or_ge j i with h6 | h6
      · exact hno j h6
      · have : j = i := by omega
        subst this
        exact fun h => h5 ((nl_here h4).2 h)
  · have : i = s.size := by omega
    subst this
    have hnl := nl_none hno
    simp
    refine loopK [0, 2, 3] (fun (k : Nat) _ => 1 ≤ k ∧ k ≤ 6 ∧ ∀ j : Nat, 1 ≤ j → j < k → ¬ hit s j) (fun k => [(5, .int .i64 (k : Nat))]) (fun _ => [[.int .i64 0, .str .empty]]) (fun _ => []) (fun k => 6 - k) 1 ⟨by omega, by omega, fun j h1 h2 => by omega⟩ (by simp) g (by simp) (by simp) ?_
    rintro k nx2 g2 ⟨hk1, hk2, hmiss⟩ - -
    simp
    by_cases h5 : k ≤ 5
    · have h5' : (k : Int) ≤ 5 := by omega
      have h3 : k < kindsL.length := by show k < 6; omega
      have hw : wordS kindsL k = kindsL[k] := by rw [kindsL_get _ (by omega) (by omega)]; simp [h3]
      have w : IntKind.i64.wrap ((k : Int) + 1) = ((k + 1 : Nat) : Int) := by rw [wrap64_in (by omega) (by omega)]; omega
      have hsz := wkinds_size k
      have w2 : IntKind.i64.wrap (((wordS kindsL k).size : Int) + 1) = (((wordS kindsL k).size + 1 : Nat) : Int) := by rw [wrap64_in (by omega) (by omega)]; omega
      simp [h5']
      refine callP_i words_ok ?_
      simp [h3]
      rw [← hw]
      simp [w2]
      have fin : ∀ key, key = keyOf k s → True := fun _ _ => trivial
      by_cases h6 : (wordS kindsL k).size + 1 < s.size
      · have h6' : ((wordS kindsL k).size : Int) + 1 < s.size := by omega
        have hky : keyOf k s = s.extract ((wordS kindsL k).size + 1) s.size := by unfold keyOf; rw [if_pos h6]
        have z1 : (0 : Int) ≤ ((wordS kindsL k).size : Int) + 1 := by omega
        have z2 : ((wordS kindsL k).size : Int) + 1 ≤ s.size := by omega
        have z3 : (wordS kindsL k).size + 1 ≤ s.size := by omega
        have z4 : ((((wordS kindsL k).size : Int) + 1)).toNat = (wordS kindsL k).size + 1 := by omega
        simp [h6', w2, z1, z2, z3, z4]
        rw [← hky]
        refine callP_i (rconflict_ok k (keyOf k s) (by have := keyOf_size k s; omega)) ?_
        by_cases hh : confS k (keyOf k s) = s
        · obtain ⟨r1, r2, r3⟩ := read_hit s hnl k hk1 h5 hh
          simp [hh]
          simp [r1, r2, r3]
        · simp [hh]
          refine againK_i (k + 1) _ ⟨by omega, by omega, fun j h1 h2 => ?_⟩ (by omega) (by simp [w]) rfl (by simp)
          rcases Nat.lt_or_ge j k with h7 | h7
          · exact hmiss j h1 h7
          · have : j = k := by omega
            subst this
            exact hh
      · have h6' : ¬ ((wordS kindsL k).size : Int) + 1 < s.size := by omega
        have hky : keyOf k s = .empty := by unfold keyOf; rw [if_neg h6]
        simp [h6']
        rw [e, ← hky]
        refine callP_i (rconflict_ok k (keyOf k s) (by have := keyOf_size k s; omega)) ?_
        by_cases hh : confS k (keyOf k s) = s
        · obtain ⟨r1, r2, r3⟩ := read_hit s hnl k hk1 h5 hh
          simp [hh]
          simp [r1, r2, r3]
        · simp [hh]
          refine againK_i (k + 1) _ ⟨by omega, by omega, fun j h1 h2 => ?_⟩ (by omega) (by simp [w]) rfl (by simp)
          rcases Nat.lt_or_ge j k with h7 | h7
          · exact hmiss j h1 h7
          · have : j = k := by omega
            subst this
            exact hh
    · have h5' : ¬ (k : Int) ≤ 5 := by omega
      obtain ⟨r1, r2, r3⟩ := read_miss s hnl (fun j h1 h2 => hmiss j h1 (by omega))
      simp [h5']
      simp [r1, r2, r3]
end Go.Proofs.AL
