/- What the functions that the law ArithShows reaches compute, and the law (part 3). -/
import Derived.Test.YtmmpichkmmgfaaaDoorAlArithShows2
namespace Go.Proofs.AL
open Go Go.RowKit Go.Proofs.Tryd
set_option maxRecDepth 100000
set_option linter.unusedSimpArgs false
def decB (u : Nat) : ByteArray := ⟨(Lib.decDigits u).toArray⟩
set_option maxHeartbeats 4000000 in
theorem digits_ok (u : Nat) (hu : u ≤ 4294967296) : ACall cx 28 [.int .i64 (u : Nat)] (.str (decB u)) none := by
  refine ACall.wpc (C := cx) T.func_28 (by kernel_rfl) rfl (by rfl) ?_
  simp [f28]
  refine loopK [] (fun (p : Nat × ByteArray) _ => Lib.decDigits u = Lib.decDigits p.1 ++ p.2.data.toList ∧ p.1 ≤ u) (fun p => [(0, .int .i64 (p.1 : Nat)), (3, .str p.2)]) (fun _ => []) (fun _ => []) (fun p => p.1) (u, ⟨#[]⟩) (by simp) (by simp) [] rfl (by simp) ?_
  rintro ⟨n, b⟩ nx g ⟨hb, hn⟩ - -
  have tm : (n : Int).tmod 10 = ((n % 10 : Nat) : Int) := by rw [Int.tmod_eq_emod_of_nonneg (by omega)]; omega
  have v1 : IntKind.u8.wrap (IntKind.i64.wrap (48 + (n : Int).tmod 10)) = ((48 + n % 10 : Nat) : Int) := by
    rw [tm, w64_id (by omega) (by omega)]
    show (48 + ((n % 10 : Nat) : Int)) % 256 = _
    omega
  have hn' : n ≤ u := hn
  have v2 : IntKind.i64.wrap ((n : Int) / 10) = ((n / 10 : Nat) : Int) := by rw [w64_id (by omega) (by omega)]; omega
  simp only [] at hb
  have hl : b.size ≤ 10 := by
    have h1 := dec_len 10 u (by decide) (by omega)
    rw [hb, List.length_append] at h1
    have h2 : b.data.toList.length = b.size := rfl
    omega
  have hz : ∀ k, (bytesB [k]).size = 1 := fun k => rfl
  simp
  rw [v1, v2]
  refine ⟨by rw [hz]; omega, ?_⟩
  refine split2_i (fun e1 => ?_) (fun e1 => ?_) <;> simp [e1]
  · simp at e1
    have h10 : n < 10 := by omega
    rw [Lib.decDigits_one h10] at hb
    refine ByteArray.ext ?_
    have hq : (48 + (n : Int) % 10).toNat = 48 + n := by omega
    simp [decB, hb, bytesB, hq]
  · simp at e1
    refine againK_i (n / 10, bytesB [((48 + n % 10 : Nat) : Int)] ++ b) g ?_ ?_ (by simp) rfl (by simp)
    · refine ⟨?_, by show n / 10 ≤ u; omega⟩
      rw [hb, Lib.decDigits, dif_neg (show ¬ n < 10 by omega)]
      have hq : (48 + (n : Int) % 10).toNat = 48 + n % 10 := by omega
      simp [bytesB, hq]
    · show n / 10 < n
      omega
theorem refShow_ok (a : Int) (ha : Fit64 a) : ACall cx 19 [.int .i64 a] (.str (itoaB (W a))) none := by
  refine ACall.wpc (C := cx) T.func_19 (by kernel_rfl) rfl (by rfl) ?_
  simp [f19]
  refine callP_i (refWrap_ok _ ha.1 ha.2) ?_
  simp
  have ag := W_ge a
  have al := W_le a
  refine split2_i (fun e1 => ?_) (fun e1 => ?_) <;> simp [e1]
  · simp at e1
    rw [w64_id (by omega) (by omega), show -W a = ((W a).natAbs : Nat) by omega]
    refine callP_i (digits_ok _ (by omega)) ?_
    have hl : (decB (W a).natAbs).size ≤ 10 := dec_len 10 _ (by decide) (by omega)
    simp
    refine ⟨by have : (⟨#[45]⟩ : ByteArray).size = 1 := rfl; omega, ?_⟩
    refine ByteArray.ext ?_
    simp [itoaB, decB, Lib.itoa, e1]
  · simp at e1
    rw [show W a = ((W a).toNat : Nat) by omega]
    refine callP_i (digits_ok _ (by omega)) ?_
    simp
    rw [show max (W a) 0 = W a by omega]
    have : ¬ W a < 0 := by omega
    simp [itoaB, decB, Lib.itoa, this]
/-! ### reading -/
theorem readV_yes {s : ByteArray} {v : Int} (h1 : -2147483648 ≤ v) (h2 : v ≤ 2147483647) (h : itoaB v = s) : readV s = (v, true) := by
  have hp : Lib.parseIntB 32 s.data.toList = .ok v := by rw [← h]; exact parse_itoa h1 h2
  unfold readV
  rw [hp]
  simp [W_id h1 h2, h]
theorem readV_no {s : ByteArray} (h : ∀ v : Int, -2147483648 ≤ v → v ≤ 2147483647 → itoaB v ≠ s) : readV s = (0, false) := by
  unfold readV
  split
  · rename_i v hv
    have hb := Lib.parseIntB_bounds hv
    have e : ((2 ^ (32 - 1) : Nat) : Int) = 2147483648 := by decide
    rw [e] at hb
    rw [W_id (by omega) (by omega), if_neg (h v (by omega) (by omega))]
  · rfl
def fromV (s : ByteArray) : Nat := if s.data.toList.head? = some 45 then 1 else 0
theorem shape {s : ByteArray} {v : Int} (h1 : -2147483648 ≤ v) (h2 : v ≤ 2147483647) (h : itoaB v = s) : s.data.toList.drop (fromV s) = Lib.decDigits v.natAbs ∧ (fromV s = 1 ↔ v < 0) ∧ s.size ≤ 11 := by
  subst h
  have hd : (itoaB v).data.toList = Lib.itoa v := rfl
  have hz : (itoaB v).size = (Lib.itoa v).length := rfl
  have hl := dec_len 10 v.natAbs (by decide) (by omega)
  unfold fromV
  rw [hd, hz]
  by_cases hv : v < 0
  · rw [Lib.itoa, if_pos hv]
    simp [hv]
    omega
  · rw [Lib.itoa, if_neg hv]
    have e : v.toNat = v.natAbs := by omega
    rw [e]
    cases hc : Lib.decDigits v.natAbs with
    | nil => exact absurd hc (dec_ne _)
    | cons c r =>
      have hg : isDig c := dec_dig v.natAbs c (by rw [hc]; exact List.mem_cons_self ..)
      have hn : c ≠ 45 := by rintro rfl; exact absurd hg (by decide)
      rw [hc] at hl
      simp at hl
      simp [hn, hv]
      omega
theorem byteAt_get {s : ByteArray} {i : Nat} (h : i < s.size) : ∃ c, s.data.toList[i]? = some c ∧ byteAt s (i : Int) = (c.toNat : Int) := by
  have hl : i < s.data.toList.length := h
  refine ⟨s.data.toList[i], List.getElem?_eq_getElem hl, ?_⟩
  unfold byteAt
  rw [dif_pos (by simpa using h)]
  simp
  rfl
theorem from_iff (s : ByteArray) : fromV s = 1 ↔ byteAt s 0 = 45 := by
  unfold fromV
  by_cases h : 0 < s.size
  · obtain ⟨c, h1, h2⟩ := byteAt_get h
    rw [show byteAt s 0 = (c.toNat : Int) from h2, List.head?_eq_getElem?, h1]
    have : (c.toNat : Int) = 45 ↔ c = 45 := ⟨fun e => UInt8.toNat_inj.1 (by show c.toNat = 45; omega), fun e => by subst e; rfl⟩
    rw [this]
    by_cases hc : c = 45 <;> simp [hc]
  · have e : s.data.toList = [] := List.eq_nil_of_length_eq_zero (by show s.size = 0; omega)
    unfold byteAt
    rw [e, dif_neg (by simpa using h)]
    simp
/-- The reading as far as byte i. -/
structure RI (s : ByteArray) (f i n : Nat) : Prop where
  lo : f ≤ i
  hi : i ≤ s.size
  val : n = dval 0 ((s.data.toList.drop f).take (i - f))
  dig : ∀ c ∈ (s.data.toList.drop f).take (i - f), isDig c
  len : f < i → s.size ≤ 11
  lt : n < 10 ^ (i - f)
theorem RI.zero {s : ByteArray} {f : Nat} (h : f ≤ s.size) : RI s f f 0 := ⟨Nat.le_refl _, h, by simp [dval], by simp, by omega, by simp⟩
theorem RI.small {s : ByteArray} {f i n : Nat} (h : RI s f i n) : n < 100000000000 ∧ (i < s.size → s.size ≤ 11 → n < 10000000000) := by
  have h1 := h.lt
  have hp : ∀ a b : Nat, a ≤ b → 10 ^ a ≤ 10 ^ b := fun a b => Nat.pow_le_pow_right (by decide)
  have l1 := h.lo
  have l2 := h.hi
  have l3 := h.len
  refine ⟨?_, fun h2 h3 => ?_⟩
  · have := hp (i - f) 11 (by omega)
    have e : 10 ^ 11 = 100000000000 := by decide
    omega
  · have := hp (i - f) 10 (by omega)
    have e : 10 ^ 10 = 10000000000 := by decide
    omega
theorem RI.step {s : ByteArray} {f i n : Nat} (h : RI s f i n) {c : UInt8} (hc : s.data.toList[i]? = some c) (hd : isDig c) (hz : s.size ≤ 11) : RI s f (i + 1) (n * 10 + (c.toNat - 48)) := by
  have l1 := h.lo
  have hi : i < s.size := (List.getElem?_eq_some_iff.1 hc).1
  have ht : (s.data.toList.drop f).take (i + 1 - f) = (s.data.toList.drop f).take (i - f) ++ [c] := by
    rw [show i + 1 - f = i - f + 1 by omega, List.take_add_one, List.getElem?_drop, show f + (i - f) = i by omega, hc]
    rfl
  refine ⟨by omega, by omega, ?_, ?_, fun _ => hz, ?_⟩
  · rw [ht]
    unfold dval
    rw [List.foldl_append]
    have := h.val
    unfold dval at this
    rw [← this]
    rfl
  · rw [ht]
    intro x hx
    rcases List.mem_append.1 hx with hx | hx
    · exact h.dig x hx
    · rw [List.mem_singleton] at hx; subst hx; exact hd
  · have := h.lt
    rw [show i + 1 - f = i - f + 1 by omega, Nat.pow_succ]
    have h2 := hd.2
    omega
theorem RI.bad {s : ByteArray} {f i n : Nat} (h : RI s f i n) (hf : fromV s = f) {c : UInt8} (hc : s.data.toList[i]? = some c) (hd : ¬ (isDig c ∧ s.size ≤ 11)) : readV s = (0, false) := by
  refine readV_no fun v h1 h2 e => hd ?_
  obtain ⟨s1, s2, s3⟩ := shape h1 h2 e
  refine ⟨dec_dig v.natAbs c ?_, s3⟩
  rw [← s1, hf]
  have l1 := h.lo
  refine List.mem_of_getElem? (i := i - f) ?_
  rw [List.getElem?_drop, show f + (i - f) = i by omega, hc]
theorem RI.fin {s : ByteArray} {f n : Nat} (h : RI s f s.size n) (hf : fromV s = f) {v : Int} (h1 : -2147483648 ≤ v) (h2 : v ≤ 2147483647) (e : itoaB v = s) : (if f = 1 then -(n : Int) else (n : Int)) = v := by
  obtain ⟨s1, s2, s3⟩ := shape h1 h2 e
  have hv := h.val
  rw [List.take_of_length_le (by rw [List.length_drop]; exact Nat.le_refl _), ← hf, s1, dec_val] at hv
  rw [hf] at s2
  split
  · rename_i hq
    have := s2.1 hq
    omega
  · rename_i hq
    have : ¬ v < 0 := fun e => hq (s2.2 e)
    omega
set_option maxHeartbeats 16000000 in
theorem refRead_ok (s : ByteArray) (hs : s.size ≤ 50) : ACall cx 17 [.str s] (.tup [.int .i64 (readV s).1, .bool (readV s).2]) none := by
  refine ACall.wpc (C := cx) T.func_17 (by kernel_rfl) rfl (by rfl) ?_
  simp [f17]
  by_cases h0 : 0 < s.size
  · simp [h0]
    refine split2_i (fun e0 => ?_) (fun e0 => ?_) <;> simp [e0]
    · simp at e0
      have hf : fromV s = 1 := (from_iff s).2 e0
      refine loopK [0, 4] (fun (p : Nat × Nat) _ => RI s 1 p.1 p.2) (fun p => [(7, .int .i64 (p.1 : Nat)), (6, .int .i64 (p.2 : Nat))]) (fun _ => []) (fun _ => []) (fun p => s.size - p.1) (1, 0) (RI.zero (by omega)) (by simp) [] rfl (by simp) ?_
      rintro ⟨i, n⟩ nx g hp - -
      have hR : RI s 1 i n := hp
      have b1 := hR.small
      simp
      by_cases hi : i < s.size
      · obtain ⟨c, hc, hb⟩ := byteAt_get hi
        have hc2 : c.toNat < 256 := c.toNat_lt
        by_cases g1 : c.toNat < 48
        · have g2 : (c.toNat : Int) < 48 := by omega
          simp [hi, hb, g1, g2]
          rw [hR.bad hf hc (fun e => by have := e.1.1; omega)]
          simp
        · have g2 : ¬ (c.toNat : Int) < 48 := by omega
          by_cases g3 : 57 < c.toNat
          · have g4 : (57 : Int) < (c.toNat : Int) := by omega
            simp [hi, hb, g1, g2, g3, g4]
            rw [hR.bad hf hc (fun e => by have := e.1.2; omega)]
            simp
          · have g4 : ¬ (57 : Int) < (c.toNat : Int) := by omega
            by_cases g5 : 11 < s.size
            · have g6 : (11 : Int) < (s.size : Int) := by omega
              simp [hi, hb, g1, g2, g3, g4, g5, g6]
              rw [hR.bad hf hc (fun e => by have := e.2; omega)]
              simp
            · have g6 : ¬ (11 : Int) < (s.size : Int) := by omega
              have b2 := b1.2 hi (by omega)
              simp [hi, hb, g1, g2, g3, g4, g5, g6]
              have w1 : IntKind.u8.wrap ((c.toNat : Int) - 48) = ((c.toNat - 48 : Nat) : Int) := by
                show ((c.toNat : Int) - 48) % 256 = _
                omega
              have w2 : IntKind.i64.wrap (10 * (n : Int)) = ((n * 10 : Nat) : Int) := by rw [w64_id (by omega) (by omega)]; omega
              have w3 : IntKind.i64.wrap ((c.toNat - 48 : Nat) : Int) = ((c.toNat - 48 : Nat) : Int) := w64_id (by omega) (by omega)
              have w4 : IntKind.i64.wrap (((n * 10 : Nat) : Int) + ((c.toNat - 48 : Nat) : Int)) = ((n * 10 + (c.toNat - 48) : Nat) : Int) := by rw [w64_id (by omega) (by omega)]; omega
              have w5 : IntKind.i64.wrap ((i : Int) + 1) = ((i + 1 : Nat) : Int) := by rw [w64_id (by omega) (by omega)]; omega
              rw [w1, w2, w3, w4, w5]
              refine againK_i (i + 1, n * 10 + (c.toNat - 48)) g (hR.step hc ⟨by omega, by omega⟩ (by omega)) (by show s.size - (i + 1) < s.size - i; omega) (by simp) rfl (by simp)
      · have he : i = s.size := by have := hR.hi; omega
        subst he
        simp
        have w6 : IntKind.i64.wrap (-(n : Int)) = -(n : Int) := w64_id (by omega) (by omega)
        rw [w6]
        have hfin : ∀ v : Int, -2147483648 ≤ v → v ≤ 2147483647 → itoaB v = s → -(n : Int) = v := fun v h1 h2 e => hR.fin hf h1 h2 e
        by_cases g1 : -(n : Int) < -2147483648
        · have : readV s = (0, false) := readV_no fun v h1 h2 e => by have := hfin v h1 h2 e; omega
          rw [this]
          simp [g1]
        · by_cases g2 : 2147483647 < -(n : Int)
          · have : readV s = (0, false) := readV_no fun v h1 h2 e => by have := hfin v h1 h2 e; omega
            rw [this]
            simp [g1, g2]
          · simp [g1, g2]
            refine callP_i (refShow_ok _ ⟨by omega, by omega⟩) ?_
            rw [W_id (n := -(n : Int)) (by omega) (by omega)]
            by_cases g3 : itoaB (-(n : Int)) = s
            · rw [readV_yes (by omega) (by omega) g3]
              simp [g3]
            · have : readV s = (0, false) := readV_no fun v h1 h2 e => g3 (by rw [hfin v h1 h2 e]; exact e)
              rw [this]
              simp [g3]
    · simp at e0
      have hf : fromV s = 0 := by
        have := mt (from_iff s).1 e0
        unfold fromV at this ⊢
        split <;> simp_all
      refine loopK [0, 4] (fun (p : Nat × Nat) _ => RI s 0 p.1 p.2) (fun p => [(7, .int .i64 (p.1 : Nat)), (6, .int .i64 (p.2 : Nat))]) (fun _ => []) (fun _ => []) (fun p => s.size - p.1) (0, 0) (RI.zero (by omega)) (by simp) [] rfl (by simp) ?_
      rintro ⟨i, n⟩ nx g hp - -
      have hR : RI s 0 i n := hp
      have b1 := hR.small
      simp
      by_cases hi : i < s.size
      · obtain ⟨c, hc, hb⟩ := byteAt_get hi
        have hc2 : c.toNat < 256 := c.toNat_lt
        by_cases g1 : c.toNat < 48
        · have g2 : (c.toNat : Int) < 48 := by omega
          simp [hi, hb, g1, g2]
          rw [hR.bad hf hc (fun e => by have := e.1.1; omega)]
          simp
        · have g2 : ¬ (c.toNat : Int) < 48 := by omega
          by_cases g3 : 57 < c.toNat
          · have g4 : (57 : Int) < (c.toNat : Int) := by omega
            simp [hi, hb, g1, g2, g3, g4]
            rw [hR.bad hf hc (fun e => by have := e.1.2; omega)]
            simp
          · have g4 : ¬ (57 : Int) < (c.toNat : Int) := by omega
            by_cases g5 : 11 < s.size
            · have g6 : (11 : Int) < (s.size : Int) := by omega
              simp [hi, hb, g1, g2, g3, g4, g5, g6]
              rw [hR.bad hf hc (fun e => by have := e.2; omega)]
              simp
            · have g6 : ¬ (11 : Int) < (s.size : Int) := by omega
              have b2 := b1.2 hi (by omega)
              simp [hi, hb, g1, g2, g3, g4, g5, g6]
              have w1 : IntKind.u8.wrap ((c.toNat : Int) - 48) = ((c.toNat - 48 : Nat) : Int) := by
                show ((c.toNat : Int) - 48) % 256 = _
                omega
              have w2 : IntKind.i64.wrap (10 * (n : Int)) = ((n * 10 : Nat) : Int) := by rw [w64_id (by omega) (by omega)]; omega
              have w3 : IntKind.i64.wrap ((c.toNat - 48 : Nat) : Int) = ((c.toNat - 48 : Nat) : Int) := w64_id (by omega) (by omega)
              have w4 : IntKind.i64.wrap (((n * 10 : Nat) : Int) + ((c.toNat - 48 : Nat) : Int)) = ((n * 10 + (c.toNat - 48) : Nat) : Int) := by rw [w64_id (by omega) (by omega)]; omega
              have w5 : IntKind.i64.wrap ((i : Int) + 1) = ((i + 1 : Nat) : Int) := by rw [w64_id (by omega) (by omega)]; omega
              rw [w1, w2, w3, w4, w5]
              refine againK_i (i + 1, n * 10 + (c.toNat - 48)) g (hR.step hc ⟨by omega, by omega⟩ (by omega)) (by show s.size - (i + 1) < s.size - i; omega) (by simp) rfl (by simp)
      · have he : i = s.size := by have := hR.hi; omega
        subst he
        simp
        have hfin : ∀ v : Int, -2147483648 ≤ v → v ≤ 2147483647 → itoaB v = s → (n : Int) = v := fun v h1 h2 e => hR.fin hf h1 h2 e
        by_cases g1 : (n : Int) < -2147483648
        · have : readV s = (0, false) := readV_no fun v h1 h2 e => by have := hfin v h1 h2 e; omega
          rw [this]
          simp [g1]
        · by_cases g2 : 2147483647 < (n : Int)
          · have : readV s = (0, false) := readV_no fun v h1 h2 e => by have := hfin v h1 h2 e; omega
            rw [this]
            simp [g1, g2]
          · simp [g1, g2]
            refine callP_i (refShow_ok _ ⟨by omega, by omega⟩) ?_
            rw [W_id (n := (n : Int)) (by omega) (by omega)]
            by_cases g3 : itoaB (n) = s
            · rw [readV_yes (by omega) (by omega) g3]
              simp [g3]
            · have : readV s = (0, false) := readV_no fun v h1 h2 e => g3 (by rw [hfin v h1 h2 e]; exact e)
              rw [this]
              simp [g3]
  · have hf : fromV s = 0 := by
      have e : s.data.toList = [] := List.eq_nil_of_length_eq_zero (by show s.size = 0; omega)
      unfold fromV
      rw [e]
      rfl
    simp [h0]
    refine loopK [0, 4] (fun (p : Nat × Nat) _ => RI s 0 p.1 p.2) (fun p => [(7, .int .i64 (p.1 : Nat)), (6, .int .i64 (p.2 : Nat))]) (fun _ => []) (fun _ => []) (fun p => s.size - p.1) (0, 0) (RI.zero (by omega)) (by simp) [] rfl (by simp) ?_
    rintro ⟨i, n⟩ nx g hp - -
    have hR : RI s 0 i n := hp
    have b1 := hR.small
    simp
    by_cases hi : i < s.size
    · obtain ⟨c, hc, hb⟩ := byteAt_get hi
      have hc2 : c.toNat < 256 := c.toNat_lt
      by_cases g1 : c.toNat < 48
      · have g2 : (c.toNat : Int) < 48 := by omega
        simp [hi, hb, g1, g2]
        rw [hR.bad hf hc (fun e => by have := e.1.1; omega)]
        simp
      · have g2 : ¬ (c.toNat : Int) < 48 := by omega
        by_cases g3 : 57 < c.toNat
        · have g4 : (57 : Int) < (c.toNat : Int) := by omega
          simp [hi, hb, g1, g2, g3, g4]
          rw [hR.bad hf hc (fun e => by have := e.1.2; omega)]
          simp
        · have g4 : ¬ (57 : Int) < (c.toNat : Int) := by omega
          by_cases g5 : 11 < s.size
          · have g6 : (11 : Int) < (s.size : Int) := by omega
            simp [hi, hb, g1, g2, g3, g4, g5, g6]
            rw [hR.bad hf hc (fun e => by have := e.2; omega)]
            simp
          · have g6 : ¬ (11 : Int) < (s.size : Int) := by omega
            have b2 := b1.2 hi (by omega)
            simp [hi, hb, g1, g2, g3, g4, g5, g6]
            have w1 : IntKind.u8.wrap ((c.toNat : Int) - 48) = ((c.toNat - 48 : Nat) : Int) := by
              show ((c.toNat : Int) - 48) % 256 = _
              omega
            have w2 : IntKind.i64.wrap (10 * (n : Int)) = ((n * 10 : Nat) : Int) := by rw [w64_id (by omega) (by omega)]; omega
            have w3 : IntKind.i64.wrap ((c.toNat - 48 : Nat) : Int) = ((c.toNat - 48 : Nat) : Int) := w64_id (by omega) (by omega)
            have w4 : IntKind.i64.wrap (((n * 10 : Nat) : Int) + ((c.toNat - 48 : Nat) : Int)) = ((n * 10 + (c.toNat - 48) : Nat) : Int) := by rw [w64_id (by omega) (by omega)]; omega
            have w5 : IntKind.i64.wrap ((i : Int) + 1) = ((i + 1 : Nat) : Int) := by rw [w64_id (by omega) (by omega)]; omega
            rw [w1, w2, w3, w4, w5]
            refine againK_i (i + 1, n * 10 + (c.toNat - 48)) g (hR.step hc ⟨by omega, by omega⟩ (by omega)) (by show s.size - (i + 1) < s.size - i; omega) (by simp) rfl (by simp)
    · have he : i = s.size := by have := hR.hi; omega
      subst he
      simp
      have hfin : ∀ v : Int, -2147483648 ≤ v → v ≤ 2147483647 → itoaB v = s → (n : Int) = v := fun v h1 h2 e => hR.fin hf h1 h2 e
      by_cases g1 : (n : Int) < -2147483648
      · have : readV s = (0, false) := readV_no fun v h1 h2 e => by have := hfin v h1 h2 e; omega
        rw [this]
        simp [g1]
      · by_cases g2 : 2147483647 < (n : Int)
        · have : readV s = (0, false) := readV_no fun v h1 h2 e => by have := hfin v h1 h2 e; omega
          rw [this]
          simp [g1, g2]
        · simp [g1, g2]
          refine callP_i (refShow_ok _ ⟨by omega, by omega⟩) ?_
          rw [W_id (n := (n : Int)) (by omega) (by omega)]
          by_cases g3 : itoaB (n) = s
          · rw [readV_yes (by omega) (by omega) g3]
            simp [g3]
          · have : readV s = (0, false) := readV_no fun v h1 h2 e => g3 (by rw [hfin v h1 h2 e]; exact e)
            rw [this]
            simp [g3]
end Go.Proofs.AL
namespace Go.Proofs.AL
open Go Go.RowKit Go.Proofs.Tryd
set_option maxRecDepth 100000
set_option linter.unusedSimpArgs false
set_option maxHeartbeats 8000000 in
theorem arithShows_ok (haw : Awake) (a : Int) (s : ByteArray) (ha : Fit64 a) : ACall cx 4 [.int .i64 a, .str s] (.bool true) none := by
  refine ACall.wpc (C := cx) T.func_4 (by kernel_rfl) rfl (by rfl) ?_
  simp [f4]
  refine callP_i haw ?_
  simp
  have ag := W_ge a
  have al := W_le a
  by_cases h : 50 < s.size
  · have h2 : (50 : Int) < (s.size : Int) := by omega
    simp [h, h2]
  · have h2 : ¬ (50 : Int) < (s.size : Int) := by omega
    have hz : (itoaB (W a)).size ≤ 1000 := by
      have := (shape ag al rfl).2.2
      omega
    simp [h, h2]
    refine callP_i (read_ok s (by omega)) ?_
    simp
    refine callP_i (refRead_ok s (by omega)) ?_
    simp
    refine callP_i (show_ok _) ?_
    simp
    refine callP_i (read_ok _ hz) ?_
    rw [readV_yes ag al rfl]
    simp
    refine callP_i (show_ok _) ?_
    simp
    refine callP_i (refShow_ok _ ha) ?_
    simp
    refine callP_i (wrap_ok _) ?_
    simp
end Go.Proofs.AL
namespace Go.Proofs.AL
open Go Go.RowKit Go.Proofs.YtmmpichkmmgfaaaDoor
set_option linter.unusedVariables false
set_option linter.unusedSimpArgs false
/-! ## What a law's argument reads as -/
/-- All cells of a block. -/
def mAll (w : World) : Nat → Nat := fun b => match w.heap[b]? with
  | some (.cells c _ _) => c.size
  | _ => 0
theorem mAll_end (w : World) (b : Nat) (h : w.heap.size ≤ b) : mAll w b = 0 := by
  unfold mAll
  rw [Array.getElem?_eq_none h]
theorem mAll_cell {w : World} {b o : Nat} {v : Value} (h : w.cell? ⟨b, o, none⟩ = some v) : o < mAll w b := by
  unfold World.cell? at h
  unfold mAll
  cases hb : w.heap[b]? with
  | none => rw [hb] at h; cases h
  | some ob =>
    rw [hb] at h
    cases ob with
    | cells c T q => exact (Array.getElem?_eq_some_iff.1 h).1
    | _ => cases h
theorem spot_none {w : World} {a : Addr} {v : Value} (h : w.cell? a = some v) : a.spot = none := by
  unfold World.cell? at h
  split at h
  · split at h
    · cases h
    · rename_i hs
      cases hsp : a.spot with
      | none => rfl
      | some _ => rw [hsp] at hs; exact absurd rfl hs
  · cases h
/-- Whatever reads as data of type t is a value with these cells, of a size that the datum tells, and as the reach allows. -/
def ToldAt {α : Type} (P : Program) (t : TypeId) (cells : α → List AV) (sz : α → Nat) (ok : α → Prop) (fuel : Nat) : Prop :=
  ∀ {H : Type} {enc : TypeId × Value → H} {w : World} {held : Bool} {cs : List Value} {z : DataW H × List MemPlace},
    DataW.trod enc P w 0 (fun _ => true) held fuel t cs = some z → (∀ q ∈ DataW.weights P t z.1, q ≤ 140737488351232) → ∃ x, VL (gh1 (mAll w)) w (cells x) cs ∧ ok x ∧ sz x ≤ Rows.uptoBulk z.1
def Told {α : Type} (P : Program) (t : TypeId) (cells : α → List AV) (sz : α → Nat) (ok : α → Prop) : Prop := ∀ fuel, ToldAt P t cells sz ok fuel
theorem mapM_get {α β : Type} {f : α → Option β} : ∀ {l : List α} {xs : List β}, l.mapM f = some xs → xs.length = l.length ∧ ∀ (i : Nat) (a : α), l[i]? = some a → f a = xs[i]? := by
  intro l
  induction l with
  | nil => intro xs h; rw [List.mapM_nil] at h; cases h; exact ⟨rfl, fun i a hi => by simp at hi⟩
  | cons b l ih =>
    intro xs h
    rw [List.mapM_cons] at h
    cases hy : f b with
    | none => rw [hy] at h; cases h
    | some y =>
      rw [hy] at h
      cases hys : l.mapM f with
      | none => rw [hys] at h; cases h
      | some ys =>
        rw [hys] at h
        cases h
        obtain ⟨hl, hg⟩ := ih hys
        refine ⟨by rw [List.length_cons, List.length_cons, hl], fun i a hi => ?_⟩
        cases i with
        | zero => rw [List.getElem?_cons_zero] at hi ⊢; injection hi with hi; subst hi; exact hy
        | succ i => rw [List.getElem?_cons_succ] at hi ⊢; exact hg i a hi
theorem cells_at {w : World} {base : Nat} {a : Addr} {n : Nat} {cs : List Value} (h : w.cells? base a n = some cs) : cs.length = n ∧ ∀ i u, cs[i]? = some u → w.cell? (a.add i) = some u := by
  unfold World.cells? at h
  split at h
  · obtain ⟨hl, hg⟩ := mapM_get h
    rw [List.length_range] at hl
    refine ⟨hl, fun i u hi => ?_⟩
    have hlt : i < n := by
      rcases Nat.lt_or_ge i n with h1 | h1
      · exact h1
      · rw [List.getElem?_eq_none (by omega)] at hi; cases hi
    rw [hg i i (by rw [List.getElem?_range hlt])]; exact hi
  · cases h
theorem bulk_one {H : Type} (d : DataW H) : 1 ≤ Rows.uptoBulk d := by
  cases d with
  | lit l => cases l <;> simp [Rows.uptoBulk]
  | nil => simp [Rows.uptoBulk]
  | ptr d => simp [Rows.uptoBulk]
  | slice elems spare => simp [Rows.uptoBulk]
  | agg parts => simp [Rows.uptoBulk]
  | iface u d => simp [Rows.uptoBulk]
  | map entries => simp [Rows.uptoBulk]
  | held t => simp [Rows.uptoBulk]
theorem told_int {P : Program} {t : TypeId} {k : IntKind} (hu : P.underlying t = some (.int k)) : Told P t (fun x : Int => [.int k x]) (fun _ => 1) (fun x => (Lit.int k x).wf = true) := by
  intro fuel H enc w held cs z h _
  obtain ⟨n, rfl, rfl, hw⟩ := DataW.trod_int hu h
  exact ⟨n, .cons (.int k n) rfl .nil, hw, bulk_one _⟩
theorem told_bool {P : Program} {t : TypeId} (hu : P.underlying t = some .bool) : Told P t (fun x : Bool => [.bool x]) (fun _ => 1) (fun _ => True) := by
  intro fuel H enc w held cs z h _
  obtain ⟨n, rfl, rfl⟩ := DataW.trod_bool hu h
  exact ⟨n, .cons (.bool n) rfl .nil, trivial, bulk_one _⟩
theorem told_string {P : Program} {t : TypeId} (hu : P.underlying t = some .string) : Told P t (fun s : ByteArray => [.str s]) (fun s => s.size + 1) (fun s => s.size ≤ 140737488351232) := by
  intro fuel H enc w held cs z h hq
  obtain ⟨s, rfl, rfl, hs⟩ := DataW.trod_string hu h
  refine ⟨s, .cons (.str s) rfl .nil, ?_, ?_⟩
  · have := hq s.data.toList.length (by simp [DataW.weights])
    simpa using this
  · simp [Rows.uptoBulk]
def sumOf {α : Type} (sz : α → Nat) : List α → Nat
  | [] => 0
  | x :: l => sz x + sumOf sz l
theorem sumOf_le {α : Type} (sz : α → Nat) {l : List α} {x : α} (h : x ∈ l) : sz x ≤ sumOf sz l := by
  induction l with
  | nil => cases h
  | cons y l ih =>
    rw [sumOf]
    cases h with
    | head => exact Nat.le_add_right _ _
    | tail _ h => exact Nat.le_trans (ih h) (Nat.le_add_left _ _)
theorem rows_told {α : Type} {P : Program} {e : TypeId} {cells : α → List AV} {sz : α → Nat} {ok : α → Prop} {n : Nat} (ht : ToldAt P e cells sz ok n) {H : Type} {enc : TypeId × Value → H} {w : World} {held : Bool} (get : Nat → Option (List Value)) :
    ∀ (elems : List (DataW H × List MemPlace)) (k : Nat), (∀ i, i < elems.length → (get (k + i)).bind (DataW.trod enc P w 0 (fun _ => true) held n e) = elems[i]?) → (∀ q ∈ DataW.weightsAll P e (elems.map (·.1)), q ≤ 140737488351232) →
    ∃ l : List α, l.length = elems.length ∧ (∀ i x, l[i]? = some x → ∃ cs, get (k + i) = some cs ∧ VL (gh1 (mAll w)) w (cells x) cs) ∧ (∀ x ∈ l, ok x) ∧ sumOf sz l ≤ Rows.uptoBulkAll (elems.map (·.1)) := by
  intro elems
  induction elems with
  | nil => intro k _ _; exact ⟨[], rfl, (fun i x hi => (by simp at hi)), (fun x hx => (by cases hx)), Nat.zero_le _⟩
  | cons y elems ih =>
    intro k h hq
    rw [List.map_cons, DataW.weightsAll] at hq
    have h0 := h 0 (by simp)
    rw [List.getElem?_cons_zero, Nat.add_zero] at h0
    cases hc : get k with
    | none => rw [hc] at h0; cases h0
    | some cs =>
      rw [hc] at h0
      obtain ⟨x, hx, hox, hsx⟩ := ht h0 (fun q hm => hq q (List.mem_append_left _ hm))
      obtain ⟨l, hl, hg, ho, hs⟩ := ih (k + 1) (fun i hi => by
        have := h (i + 1) (by rw [List.length_cons]; omega)
        rw [List.getElem?_cons_succ] at this
        rw [← this, show k + 1 + i = k + (i + 1) by omega]) (fun q hm => hq q (List.mem_append_right _ hm))
      refine ⟨x :: l, by rw [List.length_cons, List.length_cons, hl], fun i u hi => ?_, fun u hu => ?_, ?_⟩
      · cases i with
        | zero => rw [List.getElem?_cons_zero] at hi; injection hi with hi; subst hi; exact ⟨cs, hc, hx⟩
        | succ i => rw [List.getElem?_cons_succ] at hi; obtain ⟨c, h1, h2⟩ := hg i u hi; exact ⟨c, by rw [show k + (i + 1) = k + 1 + i by omega]; exact h1, h2⟩
      · cases hu with
        | head => exact hox
        | tail _ hu => exact ho u hu
      · rw [sumOf, List.map_cons, Rows.uptoBulkAll]; omega
/-- A slice: c: how many cells an element has; B: how many bytes. -/
theorem told_slice_at {α : Type} {P : Program} {t e : TypeId} {cells : α → List AV} {sz : α → Nat} {ok : α → Prop} (c B : Nat) (hc0 : 0 < c) (hu : P.underlying t = some (.slice e)) (hc : P.cellsOf e = c) (hb : P.bytesOf e = B) (hcl : ∀ x, (cells x).length = c) (fuel : Nat) (he : ∀ n, n < fuel → ToldAt P e cells sz ok n) :
    ToldAt P t (fun l : List α => [.sl 0 (l.map cells)]) (fun l => sumOf sz l + 1) (fun l => l.length * B ≤ 140737488351232 ∧ ∀ x ∈ l, ok x) fuel := by
  intro H enc w held cs z h hq
  rcases DataW.trod_slice hu h with ⟨rfl, rfl⟩ | ⟨a, len, cap, elems, rest, n, rfl, rfl, rfl, _, hlc, hcm, hlen, hel, _, _⟩
  · exact ⟨[], .cons (.sl0 (.inl rfl)) rfl .nil, ⟨by simp, (fun x hx => (by cases hx))⟩, bulk_one _⟩
  · simp only [DataW.weights, hu] at hq
    obtain ⟨l, hl, hg, ho, hs⟩ := rows_told (he n (Nat.lt_succ_self n)) (H := H) (enc := enc) (w := w) (held := held) (fun i => w.cells? 0 (a.add (i * P.cellsOf e)) (P.cellsOf e)) elems 0
      (fun i hi => by rw [Nat.zero_add]; exact hel i (by omega)) (fun q hm => hq q (List.mem_cons_of_mem _ (List.mem_append_left _ hm)))
    have hll : l.length = len := by omega
    refine ⟨l, .cons ?_ rfl .nil, ⟨?_, ho⟩, ?_⟩
    · rcases Nat.eq_zero_or_pos l.length with h0 | h0
      · have hnil : l = [] := List.eq_nil_of_length_eq_zero h0
        subst hnil
        have : len = 0 := by omega
        subst this
        exact .sl0 (.inl rfl)
      · have key : ∀ (j i : Nat) (el : List AV) (x : AV), (l.map cells)[j]? = some el → el[i]? = some x → ∃ u, w.cell? ⟨a.block, a.off + (j * c + i), none⟩ = some u ∧ u.oneCell' = true ∧ V (gh1 (mAll w)) w x u ∧ a.spot = none := by
          intro j i el x hj hi
          rw [List.getElem?_map] at hj
          obtain ⟨p, hp, rfl⟩ := Option.map_eq_some_iff.1 hj
          obtain ⟨cs, h1, h2⟩ := hg j p hp
          rw [Nat.zero_add] at h1
          obtain ⟨g1, g2⟩ := cells_at h1
          have hil : i < cs.length := by have := (List.getElem?_eq_some_iff.1 hi).1; rw [h2.1] at this; exact this
          obtain ⟨v1, v2⟩ := h2.2 i x cs[i] hi (List.getElem?_eq_getElem hil)
          have hcell := g2 i cs[i] (List.getElem?_eq_getElem hil)
          rw [hc, Addr.add_add] at hcell
          have hsp := spot_none hcell
          by_cases h00 : j * c + i = 0
          · have e0 : a.add (j * c + i) = a := by unfold Addr.add; rw [if_pos h00]
            rw [e0] at hcell hsp
            have ea : (⟨a.block, a.off + (j * c + i), none⟩ : Addr) = a := by rw [h00, Nat.add_zero, ← hsp]
            exact ⟨_, by rw [ea]; exact hcell, v2, v1, hsp⟩
          · have e0 : a.add (j * c + i) = ⟨a.block, a.off + (j * c + i), none⟩ := by unfold Addr.add; rw [if_neg h00]
            rw [e0] at hcell
            have h0' : 0 < l.length := h0
            -- the row's own place: of its first cell
            have hp0 : l[0]? = some l[0] := List.getElem?_eq_getElem h0'
            obtain ⟨cs0, k1, k2⟩ := hg 0 _ hp0
            obtain ⟨q1, q2⟩ := cells_at k1
            have hl0 : 0 < cs0.length := by rw [q1, hc]; exact hc0
            have hz := q2 0 _ (List.getElem?_eq_getElem hl0)
            have ez : (a.add ((0 + 0) * P.cellsOf e)).add 0 = a := by unfold Addr.add; simp
            rw [ez] at hz
            exact ⟨_, hcell, v2, v1, spot_none hz⟩
        have hsp : a.spot = none := by
          have hel0 : (l.map cells)[0]? = some (cells l[0]) := by rw [List.getElem?_map, List.getElem?_eq_getElem h0]; rfl
          have hc1 : 0 < (cells l[0]).length := by rw [hcl]; exact hc0
          obtain ⟨_, _, _, _, h4⟩ := key 0 0 _ _ hel0 (List.getElem?_eq_getElem hc1)
          exact h4
        have ea : a = ⟨a.block, a.off, none⟩ := by cases a; simp at hsp; subst hsp; rfl
        rw [ea]
        refine .sl (sz := c) (fun j i => (w.cell? ⟨a.block, a.off + (j * c + i), none⟩).getD undef) (by omega) (by simp; omega) hlc hcm hc0 (fun el hel => ?_) (.inl rfl) (fun j i el x hj hi => ?_) (fun j i el x hj hi => ?_)
        · obtain ⟨p, _, rfl⟩ := List.mem_map.1 hel
          exact hcl p
        · obtain ⟨u, h1, h2, h3, _⟩ := key j i el x hj hi
          exact ⟨mAll_cell h1, by rw [h1]; rfl, by rw [h1]; exact h2⟩
        · obtain ⟨u, h1, h2, h3, _⟩ := key j i el x hj hi
          rw [h1]; exact h3
    · have := hq ((elems.length + rest.length) * P.bytesOf e) (by simp)
      rw [hb] at this
      rw [hl]
      exact Nat.le_trans (Nat.mul_le_mul_right _ (Nat.le_add_right _ _)) this
    · simp only [Rows.uptoBulk]; omega
theorem told_slice {α : Type} {P : Program} {t e : TypeId} {cells : α → List AV} {sz : α → Nat} {ok : α → Prop} (c B : Nat) (hc0 : 0 < c) (hu : P.underlying t = some (.slice e)) (hc : P.cellsOf e = c) (hb : P.bytesOf e = B) (hcl : ∀ x, (cells x).length = c) (he : Told P e cells sz ok) :
    Told P t (fun l : List α => [.sl 0 (l.map cells)]) (fun l => sumOf sz l + 1) (fun l => l.length * B ≤ 140737488351232 ∧ ∀ x ∈ l, ok x) := fun fuel => told_slice_at c B hc0 hu hc hb hcl fuel (fun n _ => he n)
theorem ToldAt.map {α β : Type} {P : Program} {t : TypeId} {cells : α → List AV} {sz : α → Nat} {ok : α → Prop} {fuel : Nat} (h : ToldAt P t cells sz ok fuel) {cells' : β → List AV} {sz' : β → Nat} {ok' : β → Prop} (f : α → β) (h1 : ∀ x, cells' (f x) = cells x) (h2 : ∀ x, sz' (f x) ≤ sz x) (h3 : ∀ x, ok x → ok' (f x)) : ToldAt P t cells' sz' ok' fuel := by
  intro H enc w held cs z h' hq
  obtain ⟨x, a, b, c⟩ := h h' hq
  exact ⟨f x, by rw [h1]; exact a, h3 x b, Nat.le_trans (h2 x) c⟩
/-- A field's part of a struct's cells. -/
theorem told_field {α : Type} {P : Program} {t : TypeId} {cells : α → List AV} {sz : α → Nat} {ok : α → Prop} {n : Nat} (ht : ToldAt P t cells sz ok n) {H : Type} {enc : TypeId × Value → H} {w : World} {held : Bool} {cs : List Value} {off k : Nat} {y : DataW H × List MemPlace} (hk : P.cellsOf t = k)
    (h : DataW.trod enc P w 0 (fun _ => true) held n t ((cs.drop off).take (P.cellsOf t)) = some y) (hq : ∀ q ∈ DataW.weights P t y.1, q ≤ 140737488351232) : ∃ x, VL (gh1 (mAll w)) w (cells x) ((cs.drop off).take k) ∧ ok x ∧ sz x ≤ Rows.uptoBulk y.1 := by
  rw [hk] at h
  exact ht h hq
/-- An argument, by its reading and its weights. -/
theorem told_arg {α : Type} {P : Program} {t : TypeId} {cells : α → List AV} {sz : α → Nat} {ok : α → Prop} (ht : Told P t cells sz ok) {H : Type} {enc : TypeId × Value → H} {w : World} {held : Bool} {ts : List TypeId} {ds : List (DataW H)} {j : Nat} {v : Value} {z : DataW H} {ps : List MemPlace}
    (h : DataW.Trod enc P w 0 (fun _ => true) held t v z ps) (hsz : (DataW.weightsEach P ts ds).all (· ≤ reachBytes) = true) (hj : ts[j]? = some t) (hd : ds[j]? = some z) : ∃ x, VL (gh1 (mAll w)) w (cells x) v.cells.toList ∧ ok x ∧ sz x ≤ Rows.uptoBulk z := by
  obtain ⟨fuel, hf⟩ := h
  obtain ⟨x, h1, h2, h3⟩ := ht fuel hf (fun q hq => by
    have := List.all_eq_true.1 hsz q (DataW.weights_mem_each hj hd q hq)
    exact of_decide_eq_true this)
  exact ⟨x, h1, h2, h3⟩
theorem vl_one {G : Gh} {w : World} {x : AV} {v : Value} (h : VL G w [x] v.cells.toList) (hn : ∀ cs, v ≠ .agg cs) : V G w x v := by
  cases v with
  | agg cs => exact absurd rfl (hn cs)
  | _ => exact (h.2 0 _ _ rfl rfl).1
theorem vl_struct {G : Gh} {w : World} {xs : List AV} {v : Value} (h : VL G w xs v.cells.toList) (hn : xs.length ≠ 1) : V G w (.agg xs) v := by
  cases v with
  | agg cs => exact VL.agg h
  | _ => exact absurd h.1 hn
theorem vl_agg {G : Gh} {w : World} {xs : List AV} {cs : Array Value} (h : VL G w xs (Value.agg cs).cells.toList) : V G w (.agg xs) (.agg cs) := VL.agg h
/-- The law's call: true, and what there was is as it was. -/
theorem law_calls {C : Cx} {f : FuncId} {args : List AV} (h : ACall C f args (.bool true) none) {W : World} {vs : Array Value} (hgi : C.GI W) (hl : vs.size = args.length) (hV : ∀ (i : Nat) (x : AV) (v : Value), args[i]? = some x → vs[i]? = some v → V (gh1 (mAll W)) W x v) :
    Calls C.P f vs W fun e w' => e = .returned (.bool true) ∧ Below W.heap.size W w' :=
  (h.2 (mAll W) W vs hgi (fun b hb => mAll_end W b hb) hl hV).mono (fun e w' ⟨v, m', he, hb, _, _, hv, _⟩ => ⟨by rw [he]; cases hv; rfl, hb⟩)
end Go.Proofs.AL
namespace Go.Proofs.AL
open Go Go.RowKit Go.ChangeShapes Go.WideShapes Go.ChangeAt Go.Proofs.YtmmpichkmmgfaaaDoor
/-! ### what the package's variables hold, out of the row's condition -/
theorem iface_reads {H : Type} {enc : TypeId × Value → H} {P : Program} {w : World} {base : Nat} {sp : Nat → Bool} {fuel : Nat} {t : TypeId} {ms : Array (String × TypeId)} {cs : List Value} {nm : String} {d : DataW H} {p : List MemPlace}
    (ht : P.underlying t = some (.interface ms)) (h : DataW.trod enc P w base sp false fuel t cs = some (.iface nm d, p)) : ∃ u v, cs = [.iface u v] := by
  cases fuel with
  | zero => simp [DataW.trod] at h
  | succ n =>
    unfold DataW.trod at h
    rw [ht] at h
    split at h <;> simp_all
theorem vars_of_laid {W : World} (h : laidMetH Tryd.prog Rows.arithDoesRow.laid W) : VarsOk W := by
  rw [MakeChecks.laidMetH_plain _ _ _ (by kernel_rfl)] at h
  obtain ⟨ps, ⟨g0, t0, cs0, f0, p0, q0, hg0, ht0, hv0, hd0, ⟨g1, t1, cs1, f1, p1, q1, hg1, ht1, hv1, hd1, ⟨g2, t2, cs2, f2, p2, q2, hg2, ht2, hv2, hd2, ⟨g3, t3, cs3, f3, p3, q3, hg3, ht3, hv3, hd3, ⟨g4, t4, cs4, f4, p4, q4, hg4, ht4, hv4, hd4, _, _⟩, _⟩, _⟩, _⟩, _⟩, _, _⟩ := h
  obtain rfl := Option.some.inj ((show Tryd.prog.globalNamed "internal/strconv.uint64pow10" = some 2 by kernel_rfl).symm.trans hg2)
  obtain rfl := Option.some.inj ((show Tryd.prog.globalNamed "strconv.ErrRange" = some 1 by kernel_rfl).symm.trans hg3)
  obtain rfl := Option.some.inj ((show Tryd.prog.globalNamed "strconv.ErrSyntax" = some 0 by kernel_rfl).symm.trans hg4)
  obtain rfl := Option.some.inj ((show (Tryd.prog.globals[2]?).map (·.type) = some 74 by kernel_rfl).symm.trans ht2)
  obtain rfl := Option.some.inj ((show (Tryd.prog.globals[1]?).map (·.type) = some 45 by kernel_rfl).symm.trans ht3)
  obtain rfl := Option.some.inj ((show (Tryd.prog.globals[0]?).map (·.type) = some 45 by kernel_rfl).symm.trans ht4)
  obtain ⟨u3, v3, e3⟩ := iface_reads Tryd.underlying45 hd3
  obtain ⟨u4, v4, e4⟩ := iface_reads Tryd.underlying45 hd4
  refine ⟨?_, ⟨u4, v4, ?_⟩, u3, v3, ?_⟩
  · have e : Rows.laid_internal_strconv_uint64pow10 (H := Unit) = Lib.tabData .u64 Lib.pow10Tab := by kernel_rfl
    rw [e] at hd2
    have := Lib.cells_of_tab Tryd.underlying74 Tryd.underlying53 (by kernel_rfl) (by kernel_rfl) hd2
    show W.var? Tryd.prog _ = _
    rw [hv2, ← this]
  · rw [hv4]; exact congrArg some (by rw [← Array.toArray_toList (xs := cs4), e4])
  · rw [hv3]; exact congrArg some (by rw [← Array.toArray_toList (xs := cs3), e3])
theorem fit_of {n : Int} (h : (Lit.int .i64 n).wf = true) : Fit64 n := by
  have h1 : IntKind.i64.min = -9223372036854775808 := by decide
  have h2 : IntKind.i64.max = 9223372036854775807 := by decide
  simp only [Lit.wf, Bool.and_eq_true, decide_eq_true_eq, h1, h2] at h
  exact h
set_option maxRecDepth 100000 in
theorem door_met (os : Os) (args : Array Value) : laidMetH Tryd.prog Rows.arithDoesRow.laid ((World.doorLaid Tryd.prog 62 os).forCall (fun _ _ => 0) ⟨#[], args, []⟩).memory :=
  laidMetH_of_parts3 (fuel := 8) (laidMet_of_run' 8 (by kernel_rfl) (by kernel_rfl)) (by kernel_rfl) (by kernel_rfl)
end Go.Proofs.AL
