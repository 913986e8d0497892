/- Laid by a program of this session out of the seat's translation. -/
import Derived.Test.YtphghffdaceaoaaPHunkx0
import Derived.Test.YtphghffdaceaoaaPHunkx2
import Derived.Test.YtphghffdaceaoaaPHunkx5
import Derived.Test.YtphghffdaceaoaaPHunkx6
import Derived.Test.YtphghffdaceaoaaPHunkx7
namespace Go.Proofs.Ytphghffdaceaoaa.PHunk
open Go.RowKit Go.Proofs.YtphghffdaceaoaaW.PrintWords Go.Proofs.YtphghffdaceaoaaW.PrintLast Go.Proofs.YtphghffdaceaoaaW.PrintMore
attribute [local go_sem] max2_int min2_int max_two min_two max_three min_three max_four min_four   -- for this text's walks alone
set_option linter.unusedVariables false
set_option linter.unusedSimpArgs false
/-! ### r01_Same: function 18 -/
def r01_Same.l0 : Nat → List ByteArray → List ByteArray → Int → Option (Bool)
 | 0, _, _, _ => none
 | k + 1, x0, x1, x5 => if x5 < (x0.length : Int) then (if 0 ≤ x5 then (if x5 < (x1.length : Int) then (if (rdOf ByteArray.empty x0 x5).toList = (rdOf ByteArray.empty x1 x5).toList then (r01_Same.l0 k x0 x1 (wrap64 (x5 + 1))) else (some false)) else (none)) else (none)) else (some true)
def r01_Same.f (k : Nat) (l0 : List ByteArray) (l1 : List ByteArray) : Option (Bool) := if (l0.length : Int) = (l1.length : Int) then (r01_Same.l0 k l0 l1 0) else (some false)
theorem r01_Same.mono_l : ∀ k, (∀ y0 y1 y2, LeO (r01_Same.l0 k y0 y1 y2) (r01_Same.l0 (k + 1) y0 y1 y2))
 | 0 => fun _ _ _ r h => by simp [r01_Same.l0] at h
 | k + 1 => by
  have ih0 := r01_Same.mono_l k
  ·intro y0 y1 y2
   unfold r01_Same.l0
   repeat' first
   | (with_reducible exact ih0 _ _ _)
   | (with_reducible exact LeO.refl _)
   | (with_reducible exact LeO.none _)
   | (with_reducible refine LeO.ite ?_ ?_)
   | (with_reducible refine LeO.bind ?_ (fun _ => ?_))
   | exact ih0 _ _ _
   | exact LeO.none _
   | refine LeO.ite ?_ ?_
   | refine LeO.bind ?_ (fun _ => ?_)
theorem r01_Same.mono : ∀ a0 a1 k, LeO (r01_Same.f k a0 a1) (r01_Same.f (k + 1) a0 a1) := by
 intro a0 a1 k
 have ih0 := r01_Same.mono_l k
 unfold r01_Same.f
 repeat' first
   | (with_reducible exact ih0 _ _ _)
   | (with_reducible exact LeO.refl _)
   | (with_reducible exact LeO.none _)
   | (with_reducible refine LeO.ite ?_ ?_)
   | (with_reducible refine LeO.bind ?_ (fun _ => ?_))
   | exact ih0 _ _ _
   | exact LeO.none _
   | refine LeO.ite ?_ ?_
   | refine LeO.bind ?_ (fun _ => ?_)
set_option maxHeartbeats 8000000 in
set_option maxRecDepth 100000 in
theorem r01_Same.calls (k : Nat) (A0 : Option Addr) (c0 : Nat) (l0 : List ByteArray) (A1 : Option Addr) (c1 : Nat) (l1 : List ByteArray) (r : Bool) (w : World) (hr0 : Kd.C Kd.string w A0 l0.length l0) (hc0 : l0.length ≤ c0) (hr1 : Kd.C Kd.string w A1 l1.length l1) (hc1 : l1.length ≤ c1) (h : r01_Same.f k l0 l1 = some r) :
  Calls Try.prog 18 #[.slice A0 l0.length c0, .slice A1 l1.length c1] w fun e w' => e = .returned (.bool r) ∧ Drawn0 w w' := by
 have HR0 := Zm hr0
 have HC0 := Zm hc0
 clear hr0 hc0
 have HR1 := Zm hr1
 have HC1 := Zm hc1
 clear hr1 hc1
 have H : (if (l0.length : Int) = (l1.length : Int) then (r01_Same.l0 k l0 l1 0) else (some false)) = some r := h
 clear h
 by_cases c3 : (l0.length : Int) = (l1.length : Int)
 ·rw [if_pos c3] at H
  have c3b0 : ((l0.length : Int) == (l1.length : Int)) = true := beq_iff_eq.mpr c3
  have c3b1 : ((l0.length : Int) != (l1.length : Int)) = false := bne_eq_false_iff_eq.mpr c3
  have c3b2 : (l0.length == l1.length) = true := by first | simpa using c3 | (simp at c3 ⊢; omega)
  clear c3
  have H' := Zm H
  clear H
  go_enter Try.func18, Try.ntmps18
  go_wp2
  repeat (go_quiet (fail); try go_wp2)
  go_loopg [5] k (fun kq v5 w' => ∃ (x5_1 : Int), v5 = .int .i64 x5_1 ∧ Aside0 (r01_Same.l0 kq l0 l1 x5_1 = some r) ∧ Aside0 (kq ≤ k) ∧ Drawn0 w w')
  case atStart => exact ⟨(0), (by first | rfl | (simp; done) | (simp [*]; done)), H', ⟨Nat.le_refl _⟩, by repeat (first | exact Drawn0.refl _ | apply Drawn0.step)⟩
  case round =>
   clear H'
   try clear c1
   try clear p2
   try clear c3
   try clear c3b0
   try clear c3b1
   try clear c3b2
   obtain ⟨x5_1, rfl, HA, HK1, ⟨m1, rfl⟩⟩ := hrel
   cases gk with
   | zero => exact absurd HA.out (by simp [r01_Same.l0])
   | succ k1 =>
    have H := HA.out
    clear HA
    simp only [r01_Same.l0] at H
    by_cases c4 : x5_1 < (l0.length : Int)
    ·rw [if_pos c4] at H
     have c4b0 : decide (x5_1 < (l0.length : Int)) = true := decide_eq_true c4
     clear c4
     by_cases c5 : 0 ≤ x5_1
     ·rw [if_pos c5] at H
      have c5b0 : decide (0 ≤ x5_1) = true := decide_eq_true c5
      clear c5
      by_cases c6 : x5_1 < (l1.length : Int)
      ·rw [if_pos c6] at H
       have c6b0 : decide (x5_1 < (l1.length : Int)) = true := decide_eq_true c6
       clear c6
       by_cases c7 : (rdOf ByteArray.empty l0 x5_1).toList = (rdOf ByteArray.empty l1 x5_1).toList
       ·rw [if_pos c7] at H
        have c7b0 : ((rdOf ByteArray.empty l0 x5_1).toList == (rdOf ByteArray.empty l1 x5_1).toList) = true := beq_iff_eq.mpr c7
        have c7b1 : ((rdOf ByteArray.empty l0 x5_1).toList != (rdOf ByteArray.empty l1 x5_1).toList) = false := bne_eq_false_iff_eq.mpr c7
        clear c7
        have H' := Zm H
        clear H
        have p176 : 0 ≤ (x5_1 : Int) := Zo (by first | (with_reducible assumption) | assumption)
        have q176 : x5_1 < (l0.length : Int) := Zo (by first | (with_reducible assumption) | assumption)
        obtain ⟨ad176, e176, hx176_0⟩ := Kd.at_string HR0.out x5_1 p176 q176
        cases e176
        replace p176 := eq_true p176
        replace q176 := eq_true q176
        have p177 : 0 ≤ (x5_1 : Int) := Zo (by first | (with_reducible assumption) | assumption)
        have q177 : x5_1 < (l1.length : Int) := Zo (by first | (with_reducible assumption) | assumption)
        obtain ⟨ad177, e177, hx177_0⟩ := Kd.at_string HR1.out x5_1 p177 q177
        cases e177
        replace p177 := eq_true p177
        replace q177 := eq_true q177
        go_wp2
        repeat (go_quiet (fail); try go_wp2)
        go_roundg k1
        case measure => have := HK1.out; omega
        case rel => exact ⟨(wrap64 (x5_1 + 1)), (by first | rfl | (simp; done) | (simp [*]; done)), H', ⟨by have := HK1.out; omega⟩, by repeat (first | exact Drawn0.refl _ | apply Drawn0.step)⟩
       ·rw [if_neg c7] at H
        have c7b0 : ((rdOf ByteArray.empty l0 x5_1).toList == (rdOf ByteArray.empty l1 x5_1).toList) = false := beq_eq_false_iff_ne.mpr c7
        have c7b1 : ((rdOf ByteArray.empty l0 x5_1).toList != (rdOf ByteArray.empty l1 x5_1).toList) = true := bne_iff_ne.mpr c7
        obtain rfl := Option.some.inj H
        have p176 : 0 ≤ (x5_1 : Int) := Zo (by first | (with_reducible assumption) | assumption)
        have q176 : x5_1 < (l0.length : Int) := Zo (by first | (with_reducible assumption) | assumption)
        obtain ⟨ad176, e176, hx176_0⟩ := Kd.at_string HR0.out x5_1 p176 q176
        cases e176
        replace p176 := eq_true p176
        replace q176 := eq_true q176
        have p177 : 0 ≤ (x5_1 : Int) := Zo (by first | (with_reducible assumption) | assumption)
        have q177 : x5_1 < (l1.length : Int) := Zo (by first | (with_reducible assumption) | assumption)
        obtain ⟨ad177, e177, hx177_0⟩ := Kd.at_string HR1.out x5_1 p177 q177
        cases e177
        replace p177 := eq_true p177
        replace q177 := eq_true q177
        go_wp2
        repeat (go_quiet (fail); try go_wp2)
        go_ret
        exact ⟨by first | rfl | (simp; done) | (simp [*]; done), by repeat (first | exact Drawn0.refl _ | apply Drawn0.step)⟩
      ·rw [if_neg c6] at H
       exact absurd H (by simp)
     ·rw [if_neg c5] at H
      exact absurd H (by simp)
    ·rw [if_neg c4] at H
     have c4b0 : decide (x5_1 < (l0.length : Int)) = false := decide_eq_false c4
     clear c4
     obtain rfl := Option.some.inj H
     go_wp2
     repeat (go_quiet (fail); try go_wp2)
     go_ret
     exact ⟨by first | rfl | (simp; done) | (simp [*]; done), by repeat (first | exact Drawn0.refl _ | apply Drawn0.step)⟩
 ·rw [if_neg c3] at H
  have c3b0 : ((l0.length : Int) == (l1.length : Int)) = false := beq_eq_false_iff_ne.mpr c3
  have c3b1 : ((l0.length : Int) != (l1.length : Int)) = true := bne_iff_ne.mpr c3
  have c3b2 : (l0.length == l1.length) = false := by first | simpa using c3 | (simp at c3 ⊢; omega)
  obtain rfl := Option.some.inj H
  go_enter Try.func18, Try.ntmps18
  go_wp2
  repeat (go_quiet (fail); try go_wp2)
  go_ret
  exact ⟨by first | rfl | (simp; done) | (simp [*]; done), by repeat (first | exact Drawn0.refl _ | apply Drawn0.step)⟩
/-! ### hunk_Invert: function 19 -/
def hunk_Invert.l0 : Nat → List (S40) → List (S40) → Int → Int → Option ((List (S40)))
 | 0, _, _, _, _ => none
 | k + 1, x3, x6, x7, x8 => if x8 < x7 then (if 0 ≤ x8 then (if x8 < (x6.length : Int) then (if x3.length < 4398046511104 then (hunk_Invert.l0 k (x3 ++ [(⟨(rd_T40 x6 x8).f2, (rd_T40 x6 x8).f3, (rd_T40 x6 x8).f0, (rd_T40 x6 x8).f1⟩ : S40)]) x6 x7 (wrap64 (x8 + 1))) else (none)) else (none)) else (none)) else (some x3)
def hunk_Invert.f (k : Nat) (l0 : List (S40)) : Option ((List (S40))) := hunk_Invert.l0 k ([] : List (S40)) l0 (l0.length : Int) 0
theorem hunk_Invert.mono_l : ∀ k, (∀ y0 y1 y2 y3, LeO (hunk_Invert.l0 k y0 y1 y2 y3) (hunk_Invert.l0 (k + 1) y0 y1 y2 y3))
 | 0 => fun _ _ _ _ r h => by simp [hunk_Invert.l0] at h
 | k + 1 => by
  have ih0 := hunk_Invert.mono_l k
  ·intro y0 y1 y2 y3
   unfold hunk_Invert.l0
   repeat' first
   | (with_reducible exact ih0 _ _ _ _)
   | (with_reducible exact LeO.refl _)
   | (with_reducible exact LeO.none _)
   | (with_reducible refine LeO.ite ?_ ?_)
   | (with_reducible refine LeO.bind ?_ (fun _ => ?_))
   | exact ih0 _ _ _ _
   | exact LeO.none _
   | refine LeO.ite ?_ ?_
   | refine LeO.bind ?_ (fun _ => ?_)
theorem hunk_Invert.mono : ∀ a0 k, LeO (hunk_Invert.f k a0) (hunk_Invert.f (k + 1) a0) := by
 intro a0 k
 have ih0 := hunk_Invert.mono_l k
 unfold hunk_Invert.f
 repeat' first
   | (with_reducible exact ih0 _ _ _ _)
   | (with_reducible exact LeO.refl _)
   | (with_reducible exact LeO.none _)
   | (with_reducible refine LeO.ite ?_ ?_)
   | (with_reducible refine LeO.bind ?_ (fun _ => ?_))
   | exact ih0 _ _ _ _
   | exact LeO.none _
   | refine LeO.ite ?_ ?_
   | refine LeO.bind ?_ (fun _ => ?_)
set_option maxHeartbeats 8000000 in
set_option maxRecDepth 100000 in
theorem hunk_Invert.calls (k : Nat) (A0 : Option Addr) (c0 : Nat) (l0 : List (S40)) (r : List (S40)) (w : World) (hr0 : Kd.C k40 w A0 l0.length l0) (hc0 : l0.length ≤ c0) (h : hunk_Invert.f k l0 = some r) :
  Calls Try.prog 19 #[.slice A0 l0.length c0] w fun e w' => ∃ v0_ : Value, e = .returned (v0_) ∧ Kd.R k40 40 w' w.heap.size (fun _ => True) v0_ r ∧ Below w.heap.size w w' := by
 have hu40 := Try.underlying40
 have HR0 := Zm hr0
 have HC0 := Zm hc0
 clear hr0 hc0
 have HB := Zm (Below.refl w.heap.size w)
 have H : (hunk_Invert.l0 k ([] : List (S40)) l0 (l0.length : Int) 0) = some r := h
 clear h
 have H' := Zm H
 clear H
 go_enter Try.func19, Try.ntmps19
 go_wp2
 go_loopg [3, 8] k (fun kq v3 v8 w' => ∃ (x3_1 : List (S40)) (x8_1 : Int), v8 = .int .i64 x8_1 ∧ Aside0 (hunk_Invert.l0 kq x3_1 l0 (l0.length : Int) x8_1 = some r) ∧ Aside0 (kq ≤ k) ∧ Aside0 (Kd.R k40 40 w' w.heap.size (fun _ => True) v3 x3_1) ∧ Aside0 (Below w.heap.size w w'))
 case atStart => exact ⟨(([] : List (S40))), (0), (by first | rfl | (simp; done) | (simp [*]; done)), H', ⟨Nat.le_refl _⟩, ⟨by first | exact Kd.R_nil _ _ _ _ _ | exact Kd.N_nil _ _ _ _ _ | exact Kd.V_nil _ _ _ _ _ | exact Kd.Q_nil _ _ _ _ _ | exact Kd.S_nil _ _ _ _ _⟩, ⟨by repeat (first | (with_reducible first | exact HB.out | apply below_alloc | apply Zd | apply below_drew1) | exact HB.out)⟩⟩
 case round =>
  clear H'
  try clear c1
  obtain ⟨x3_1, x8_1, rfl, HA, HK1, HO_3, HB⟩ := hrel
  cases gk with
  | zero => exact absurd HA.out (by simp [hunk_Invert.l0])
  | succ k1 =>
   have H := HA.out
   clear HA
   simp only [hunk_Invert.l0] at H
   by_cases c2 : x8_1 < (l0.length : Int)
   ·rw [if_pos c2] at H
    have c2b0 : decide (x8_1 < (l0.length : Int)) = true := decide_eq_true c2
    clear c2
    by_cases c3 : 0 ≤ x8_1
    ·rw [if_pos c3] at H
     have c3b0 : decide (0 ≤ x8_1) = true := decide_eq_true c3
     clear c3
     by_cases c4 : x8_1 < (l0.length : Int)
     ·rw [if_pos c4] at H
      have c4b0 : decide (x8_1 < (l0.length : Int)) = true := decide_eq_true c4
      clear c4
      by_cases c5 : x3_1.length < 4398046511104
      ·rw [if_pos c5] at H
       have LMc5 := Zm c5
       clear c5
       obtain ⟨y180, hy180⟩ : ∃ y_ : List (S40), y_ = (x3_1 ++ [(⟨(rd_T40 l0 x8_1).f2, (rd_T40 l0 x8_1).f3, (rd_T40 l0 x8_1).f0, (rd_T40 l0 x8_1).f1⟩ : S40)]) := ⟨_, rfl⟩
       replace H : (hunk_Invert.l0 k1 y180 l0 (l0.length : Int) (wrap64 (x8_1 + 1))) = some r := by first | (rw [hy180]; with_reducible exact H) | (have H2_ := (Option.bind_some _ _).symm.trans H; rw [hy180]; with_reducible exact H2_) | (have H2_ := (Option.bind_some _ _).symm.trans H; with_reducible exact H2_) | with_reducible exact H | (rw [hy180]; exact H) | exact H
       have Ny180 := Zm hy180
       clear hy180
       have H' := Zm H
       clear H
       have p178 : 0 ≤ (x8_1 : Int) := Zo (by first | (with_reducible assumption) | assumption)
       have q178 : x8_1 < (l0.length : Int) := Zo (by first | (with_reducible assumption) | assumption)
       obtain ⟨ad178, e178, hx178_0, hx178_1, hx178_2, hx178_3⟩ := at_T40 HR0.out x8_1 p178 q178
       cases e178
       replace hx178_0 := (HB.out.cell (World.block_lt_of_cell? w _ hx178_0)).trans hx178_0
       replace hx178_1 := (HB.out.cell (World.block_lt_of_cell? w _ hx178_1)).trans hx178_1
       replace hx178_2 := (HB.out.cell (World.block_lt_of_cell? w _ hx178_2)).trans hx178_2
       replace hx178_3 := (HB.out.cell (World.block_lt_of_cell? w _ hx178_3)).trans hx178_3
       replace p178 := eq_true p178
       replace q178 := eq_true q178
       go_wp2_with (first | ((with_reducible refine gate_dst (N := 5) rfl ?_); refine box_event ?hg (N := 5) ?hd (cs := #[.int .i64 0, .int .i64 0, .int .i64 0, .int .i64 0]) (t := 40) ?hr ?_; (case hd => rfl); (case hg => rfl); (case hr => first | (go_simp; done) | (go_simp; rfl)); intro gb179 hg w6 hbox hb; have n0_ := Zm (Kd.R_below (Kd.R_elderB (by (with_reducible repeat (first | apply Kd.R_alloc | apply Kd.R_drewN | apply Kd.R_drew)); exact HO_3.out) gb179 (Nat.le_of_eq hg.symm)) hb); have n1_ := Zm (below_step (by repeat (first | (with_reducible first | exact HB.out | apply below_alloc | apply Zd | apply below_drew1) | exact HB.out)) hb); have n2_ := Zm (hbox); have n3_ := Zm ((by rw [hg]; exact (below_size (by repeat (first | (with_reducible first | exact HB.out | apply below_alloc | apply Zd | apply below_drew1) | exact HB.out))) : w.heap.size ≤ gb179)); have n4_ := Zm ((by rw [hg]; exact (below_size (by repeat (first | (with_reducible first | exact HB.out | apply below_alloc | apply Zd | apply below_drew1) | exact HB.out))) : w.heap.size ≤ gb179)); clear HO_3; clear HB; have HO_3 := n0_; have HB := n1_; have BK179 := n2_; have GW179 := n3_; have GE179 := n4_; clear n0_ n1_ n2_ n3_ n4_; clear hb hbox hg; have hcz7_0 : w6.cell? ⟨gb179, 0, none⟩ = some (.int .i64 0) := (blk_cell BK179.out 0).trans rfl; have hcz7_1 : w6.cell? ⟨gb179, 1, none⟩ = some (.int .i64 0) := (blk_cell BK179.out 1).trans rfl; have hcz7_2 : w6.cell? ⟨gb179, 2, none⟩ = some (.int .i64 0) := (blk_cell BK179.out 2).trans rfl; have hcz7_3 : w6.cell? ⟨gb179, 3, none⟩ = some (.int .i64 0) := (blk_cell BK179.out 3).trans rfl; have hfz7_0 := blk_frozen BK179.out 0; have hfz7_1 := blk_frozen BK179.out 1; have hfz7_2 := blk_frozen BK179.out 2; have hfz7_3 := blk_frozen BK179.out 3) | ((with_reducible refine gate_builtin (b := .append) (xs := #[.tmp 12, .tmp 22]) rfl ?_); at_builtin; refine Kd.R_append k40 (w0 := w) w.heap.size rfl (.tmp 12) (.tmp 22) 27 40 (.agg #[(.int .i64 0), (.int .i64 0), (.int .i64 0), (.int .i64 0)]) 32 rfl Try.underlying27 info40 rfl (by decide) (by omega) u3 x3_1 (⟨(rd_T40 l0 x8_1).f2, (rd_T40 l0 x8_1).f3, (rd_T40 l0 x8_1).f0, (rd_T40 l0 x8_1).f1⟩ : S40) [.int .i64 ((rd_T40 l0 x8_1).f2), .int .i64 ((rd_T40 l0 x8_1).f3), .int .i64 ((rd_T40 l0 x8_1).f0), .int .i64 ((rd_T40 l0 x8_1).f1)] (fun k_ => k_ ≠ gb179) (fun _ => False) rfl (by first | (go_simp; done) | (go_simp; rfl)) ?aP (fun _ hk => hk.elim) ?aF ?aO ?aB ?aS ?aL ?_; (case aP => exact k40_mkM _ _ _ (⟨(rd_T40 l0 x8_1).f2, (rd_T40 l0 x8_1).f3, (rd_T40 l0 x8_1).f0, (rd_T40 l0 x8_1).f1⟩ : S40)); (case aB => exact (by repeat (first | (with_reducible first | exact HB.out | apply below_alloc | apply Zd | apply below_drew1 | refine below_set ?_ GE179.out) | exact HB.out))); (case aF => exact (fun k_ hk => Kd.freshB (g := gb179) (o := .cells #[.int .i64 ((rd_T40 l0 x8_1).f0), .int .i64 ((rd_T40 l0 x8_1).f1), .int .i64 ((rd_T40 l0 x8_1).f2), .int .i64 ((rd_T40 l0 x8_1).f3)] 40 (0, 0)) (by (with_reducible repeat (first | refine blk_drewN ?_ _ | refine blk_drew ?_ | refine blk_alloc ?_ _)); refine blk_put (cs := #[.int .i64 ((rd_T40 l0 x8_1).f0), .int .i64 ((rd_T40 l0 x8_1).f1), .int .i64 ((rd_T40 l0 x8_1).f2), .int .i64 0]) ?_ 3 _ rfl; (with_reducible repeat (first | refine blk_drewN ?_ _ | refine blk_drew ?_ | refine blk_alloc ?_ _)); refine blk_put (cs := #[.int .i64 ((rd_T40 l0 x8_1).f0), .int .i64 ((rd_T40 l0 x8_1).f1), .int .i64 0, .int .i64 0]) ?_ 2 _ rfl; (with_reducible repeat (first | refine blk_drewN ?_ _ | refine blk_drew ?_ | refine blk_alloc ?_ _)); refine blk_put (cs := #[.int .i64 ((rd_T40 l0 x8_1).f0), .int .i64 0, .int .i64 0, .int .i64 0]) ?_ 1 _ rfl; (with_reducible repeat (first | refine blk_drewN ?_ _ | refine blk_drew ?_ | refine blk_alloc ?_ _)); refine blk_put (cs := #[.int .i64 0, .int .i64 0, .int .i64 0, .int .i64 0]) ?_ 0 _ rfl; (with_reducible repeat (first | refine blk_drewN ?_ _ | refine blk_drew ?_ | refine blk_alloc ?_ _)); exact BK179.out) k_ hk)); (case aO => exact (by (with_reducible repeat (first | apply Kd.R_alloc | apply Kd.R_drewN | apply Kd.R_drew)); exact Kd.R_mono (Kd.R_far (p := ⟨gb179, 3, none⟩) (Kd.R_far (p := ⟨gb179, 2, none⟩) (Kd.R_far (p := ⟨gb179, 1, none⟩) (Kd.R_far (p := ⟨gb179, 0, none⟩) (Kd.R_mono HO_3.out (fun k_ hk => (⟨hk, hk.2⟩ : _ ∧ k_ ≠ gb179))) (fun _ hk => hk.2) (.int .i64 ((rd_T40 l0 x8_1).f0))) (fun _ hk => hk.2) (.int .i64 ((rd_T40 l0 x8_1).f1))) (fun _ hk => hk.2) (.int .i64 ((rd_T40 l0 x8_1).f2))) (fun _ hk => hk.2) (.int .i64 ((rd_T40 l0 x8_1).f3))) (fun _ hk => hk.1.2))); (case aS => exact (below_size (by repeat (first | (with_reducible first | exact HB.out | apply below_alloc | apply Zd | apply below_drew1 | refine below_set ?_ GE179.out) | exact HB.out)))); (case aL => have := LMc5.out; omega); intro v181 w8 ho hb hg hat; rw [← Ny180.out] at ho; have n0_ := Zm (blk_grown (g := gb179) (o := .cells #[.int .i64 ((rd_T40 l0 x8_1).f0), .int .i64 ((rd_T40 l0 x8_1).f1), .int .i64 ((rd_T40 l0 x8_1).f2), .int .i64 ((rd_T40 l0 x8_1).f3)] 40 (0, 0)) (by (with_reducible repeat (first | refine blk_drewN ?_ _ | refine blk_drew ?_ | refine blk_alloc ?_ _)); refine blk_put (cs := #[.int .i64 ((rd_T40 l0 x8_1).f0), .int .i64 ((rd_T40 l0 x8_1).f1), .int .i64 ((rd_T40 l0 x8_1).f2), .int .i64 0]) ?_ 3 _ rfl; (with_reducible repeat (first | refine blk_drewN ?_ _ | refine blk_drew ?_ | refine blk_alloc ?_ _)); refine blk_put (cs := #[.int .i64 ((rd_T40 l0 x8_1).f0), .int .i64 ((rd_T40 l0 x8_1).f1), .int .i64 0, .int .i64 0]) ?_ 2 _ rfl; (with_reducible repeat (first | refine blk_drewN ?_ _ | refine blk_drew ?_ | refine blk_alloc ?_ _)); refine blk_put (cs := #[.int .i64 ((rd_T40 l0 x8_1).f0), .int .i64 0, .int .i64 0, .int .i64 0]) ?_ 1 _ rfl; (with_reducible repeat (first | refine blk_drewN ?_ _ | refine blk_drew ?_ | refine blk_alloc ?_ _)); refine blk_put (cs := #[.int .i64 0, .int .i64 0, .int .i64 0, .int .i64 0]) ?_ 0 _ rfl; (with_reducible repeat (first | refine blk_drewN ?_ _ | refine blk_drew ?_ | refine blk_alloc ?_ _)); exact BK179.out) hg (Kd.R_away HO_3.out (fun _ hk => hk.2))); have n1_ := Zm (hb); have n2_ := Zm (ho); clear BK179; clear HB; clear HO_3; have BK179 := n0_; have HB := n1_; have HO182 := n2_; clear n0_ n1_ n2_; clear ho hb hg hat))
       go_roundg k1
       case measure => have := HK1.out; omega
       case rel => exact ⟨(y180), (wrap64 (x8_1 + 1)), (by first | rfl | (simp; done) | (simp [*]; done)), H', ⟨by have := HK1.out; omega⟩, ⟨by (with_reducible repeat (first | apply Kd.R_alloc | apply Kd.R_drewN | apply Kd.R_drew)); exact Kd.R_mono HO182.out (fun _ hk => trivial)⟩, ⟨by repeat (first | (with_reducible first | exact HB.out | apply below_alloc | apply Zd | apply below_drew1 | refine below_set ?_ GE179.out) | exact HB.out)⟩⟩
      ·rw [if_neg c5] at H
       exact absurd H (by simp)
     ·rw [if_neg c4] at H
      exact absurd H (by simp)
    ·rw [if_neg c3] at H
     exact absurd H (by simp)
   ·rw [if_neg c2] at H
    have c2b0 : decide (x8_1 < (l0.length : Int)) = false := decide_eq_false c2
    clear c2
    obtain rfl := Option.some.inj H
    go_wp2
    go_ret
    exact ⟨_, by first | rfl | (simp [errW_none, errW_some] <;> rfl) | (simp [*, errW_none, errW_some] <;> rfl), by (with_reducible repeat (first | apply Kd.R_alloc | apply Kd.R_drewN | apply Kd.R_drew)); exact HO_3.out, by repeat (first | (with_reducible first | exact HB.out | apply below_alloc | apply Zd | apply below_drew1) | exact HB.out)⟩
/-! ### hunk_Cost: function 21 -/
def hunk_Cost.l0 : Nat → Int → List (S40) → Int → Int → Option (Int)
 | 0, _, _, _, _ => none
 | k + 1, x3, x6, x7, x8 => if x8 < x7 then (if 0 ≤ x8 then (if x8 < (x6.length : Int) then (hunk_Cost.l0 k (wrap64 (x3 + (wrap64 (((rd_T40 x6 x8).f1) + ((rd_T40 x6 x8).f3))))) x6 x7 (wrap64 (x8 + 1))) else (none)) else (none)) else (some x3)
def hunk_Cost.f (k : Nat) (l0 : List (S40)) : Option (Int) := hunk_Cost.l0 k 0 l0 (l0.length : Int) 0
theorem hunk_Cost.mono_l : ∀ k, (∀ y0 y1 y2 y3, LeO (hunk_Cost.l0 k y0 y1 y2 y3) (hunk_Cost.l0 (k + 1) y0 y1 y2 y3))
 | 0 => fun _ _ _ _ r h => by simp [hunk_Cost.l0] at h
 | k + 1 => by
  have ih0 := hunk_Cost.mono_l k
  ·intro y0 y1 y2 y3
   unfold hunk_Cost.l0
   repeat' first
   | (with_reducible exact ih0 _ _ _ _)
   | (with_reducible exact LeO.refl _)
   | (with_reducible exact LeO.none _)
   | (with_reducible refine LeO.ite ?_ ?_)
   | (with_reducible refine LeO.bind ?_ (fun _ => ?_))
   | exact ih0 _ _ _ _
   | exact LeO.none _
   | refine LeO.ite ?_ ?_
   | refine LeO.bind ?_ (fun _ => ?_)
theorem hunk_Cost.mono : ∀ a0 k, LeO (hunk_Cost.f k a0) (hunk_Cost.f (k + 1) a0) := by
 intro a0 k
 have ih0 := hunk_Cost.mono_l k
 unfold hunk_Cost.f
 repeat' first
   | (with_reducible exact ih0 _ _ _ _)
   | (with_reducible exact LeO.refl _)
   | (with_reducible exact LeO.none _)
   | (with_reducible refine LeO.ite ?_ ?_)
   | (with_reducible refine LeO.bind ?_ (fun _ => ?_))
   | exact ih0 _ _ _ _
   | exact LeO.none _
   | refine LeO.ite ?_ ?_
   | refine LeO.bind ?_ (fun _ => ?_)
set_option maxHeartbeats 8000000 in
set_option maxRecDepth 100000 in
theorem hunk_Cost.calls (k : Nat) (A0 : Option Addr) (c0 : Nat) (l0 : List (S40)) (r : Int) (w : World) (hr0 : Kd.C k40 w A0 l0.length l0) (hc0 : l0.length ≤ c0) (h : hunk_Cost.f k l0 = some r) :
  Calls Try.prog 21 #[.slice A0 l0.length c0] w fun e w' => e = .returned (.int .i64 r) ∧ Below w.heap.size w w' := by
 have hu40 := Try.underlying40
 have HR0 := Zm hr0
 have HC0 := Zm hc0
 clear hr0 hc0
 have HB := Zm (Below.refl w.heap.size w)
 have H : (hunk_Cost.l0 k 0 l0 (l0.length : Int) 0) = some r := h
 clear h
 have H' := Zm H
 clear H
 go_enter Try.func21, Try.ntmps21
 go_wp2
 go_loopg [3, 8] k (fun kq v3 v8 w' => ∃ (x3_1 : Int) (x8_1 : Int), v3 = .int .i64 x3_1 ∧ v8 = .int .i64 x8_1 ∧ Aside0 (hunk_Cost.l0 kq x3_1 l0 (l0.length : Int) x8_1 = some r) ∧ Aside0 (kq ≤ k) ∧ Aside0 (Below w.heap.size w w'))
 case atStart => exact ⟨(0), (0), (by first | rfl | (simp; done) | (simp [*]; done)), (by first | rfl | (simp; done) | (simp [*]; done)), H', ⟨Nat.le_refl _⟩, ⟨by repeat (first | (with_reducible first | exact HB.out | apply below_alloc | apply Zd | apply below_drew1) | exact HB.out)⟩⟩
 case round =>
  clear H'
  obtain ⟨x3_1, x8_1, rfl, rfl, HA, HK1, HB⟩ := hrel
  cases gk with
  | zero => exact absurd HA.out (by simp [hunk_Cost.l0])
  | succ k1 =>
   have H := HA.out
   clear HA
   simp only [hunk_Cost.l0] at H
   by_cases c2 : x8_1 < (l0.length : Int)
   ·rw [if_pos c2] at H
    have c2b0 : decide (x8_1 < (l0.length : Int)) = true := decide_eq_true c2
    clear c2
    by_cases c3 : 0 ≤ x8_1
    ·rw [if_pos c3] at H
     have c3b0 : decide (0 ≤ x8_1) = true := decide_eq_true c3
     clear c3
     by_cases c4 : x8_1 < (l0.length : Int)
     ·rw [if_pos c4] at H
      have c4b0 : decide (x8_1 < (l0.length : Int)) = true := decide_eq_true c4
      clear c4
      have H' := Zm H
      clear H
      have p183 : 0 ≤ (x8_1 : Int) := Zo (by first | (with_reducible assumption) | assumption)
      have q183 : x8_1 < (l0.length : Int) := Zo (by first | (with_reducible assumption) | assumption)
      obtain ⟨ad183, e183, hx183_0, hx183_1, hx183_2, hx183_3⟩ := at_T40 HR0.out x8_1 p183 q183
      cases e183
      replace hx183_0 := (HB.out.cell (World.block_lt_of_cell? w _ hx183_0)).trans hx183_0
      replace hx183_1 := (HB.out.cell (World.block_lt_of_cell? w _ hx183_1)).trans hx183_1
      replace hx183_2 := (HB.out.cell (World.block_lt_of_cell? w _ hx183_2)).trans hx183_2
      replace hx183_3 := (HB.out.cell (World.block_lt_of_cell? w _ hx183_3)).trans hx183_3
      replace p183 := eq_true p183
      replace q183 := eq_true q183
      go_wp2_with (first | ((with_reducible refine gate_dst (N := 5) rfl ?_); refine box_event ?hg (N := 5) ?hd (cs := #[.int .i64 0, .int .i64 0, .int .i64 0, .int .i64 0]) (t := 40) ?hr ?_; (case hd => rfl); (case hg => rfl); (case hr => first | (go_simp; done) | (go_simp; rfl)); intro gb184 hg w5 hbox hb; have n0_ := Zm (below_step (by repeat (first | (with_reducible first | exact HB.out | apply below_alloc | apply Zd | apply below_drew1) | exact HB.out)) hb); have n1_ := Zm (hbox); have n2_ := Zm ((by rw [hg]; exact (below_size (by repeat (first | (with_reducible first | exact HB.out | apply below_alloc | apply Zd | apply below_drew1) | exact HB.out))) : w.heap.size ≤ gb184)); have n3_ := Zm ((by rw [hg]; exact (below_size (by repeat (first | (with_reducible first | exact HB.out | apply below_alloc | apply Zd | apply below_drew1) | exact HB.out))) : w.heap.size ≤ gb184)); clear HB; have HB := n0_; have BK184 := n1_; have GW184 := n2_; have GE184 := n3_; clear n0_ n1_ n2_ n3_; clear hb hbox hg; have hcz6_0 : w5.cell? ⟨gb184, 0, none⟩ = some (.int .i64 0) := (blk_cell BK184.out 0).trans rfl; have hcz6_1 : w5.cell? ⟨gb184, 1, none⟩ = some (.int .i64 0) := (blk_cell BK184.out 1).trans rfl; have hcz6_2 : w5.cell? ⟨gb184, 2, none⟩ = some (.int .i64 0) := (blk_cell BK184.out 2).trans rfl; have hcz6_3 : w5.cell? ⟨gb184, 3, none⟩ = some (.int .i64 0) := (blk_cell BK184.out 3).trans rfl; have hfz6_0 := blk_frozen BK184.out 0; have hfz6_1 := blk_frozen BK184.out 1; have hfz6_2 := blk_frozen BK184.out 2; have hfz6_3 := blk_frozen BK184.out 3))
      go_roundg k1
      case measure => have := HK1.out; omega
      case rel => exact ⟨(wrap64 (x3_1 + (wrap64 (((rd_T40 l0 x8_1).f1) + ((rd_T40 l0 x8_1).f3))))), (wrap64 (x8_1 + 1)), (by first | rfl | (simp; done) | (simp [*]; done)), (by first | rfl | (simp; done) | (simp [*]; done)), H', ⟨by have := HK1.out; omega⟩, ⟨by repeat (first | (with_reducible first | exact HB.out | apply below_alloc | apply Zd | apply below_drew1 | refine below_set ?_ GE184.out) | exact HB.out)⟩⟩
     ·rw [if_neg c4] at H
      exact absurd H (by simp)
    ·rw [if_neg c3] at H
     exact absurd H (by simp)
   ·rw [if_neg c2] at H
    have c2b0 : decide (x8_1 < (l0.length : Int)) = false := decide_eq_false c2
    clear c2
    obtain rfl := Option.some.inj H
    go_wp2
    go_ret
    exact ⟨by first | rfl | (simp [errW_none, errW_some] <;> rfl) | (simp [*, errW_none, errW_some] <;> rfl), by repeat (first | (with_reducible first | exact HB.out | apply below_alloc | apply Zd | apply below_drew1) | exact HB.out)⟩
/-! ### l06_awake: function 7 -/
def l06_awake.f (k : Nat)  : Option (Bool) := (some (([(⟨#[97]⟩ : ByteArray), (⟨#[98]⟩ : ByteArray), (⟨#[99]⟩ : ByteArray)] : List ByteArray) : List ByteArray)).bind fun y185 => ((some (([(⟨#[97]⟩ : ByteArray), (⟨#[120]⟩ : ByteArray), (⟨#[121]⟩ : ByteArray)] : List ByteArray) : List ByteArray)).bind fun y188 => ((hunk_Texts.f k y185 y188).bind fun t191 => ((hunk_Patch.f k y185 t191 y188).bind fun bt194 => ((r06_Same.f k t191 (([(⟨1, 2, 1, 2⟩ : S40)] : List (S40)))).bind fun t201 => (if t201 = true then (if bt194.2 = 0 then ((r01_Same.f k bt194.1 y188).bind fun t202 => (if t202 = true then ((hunk_Cost.f k t191).bind fun t203 => (if t203 = 4 then ((hunk_Check.f k t191 3 3).bind fun t204 => (if t204 = 0 then ((hunk_Check.f k t191 3 4).bind fun t205 => (if t205 = 60 then ((hunk_Invert.f k t191).bind fun t206 => (if (t206.length : Int) = 1 then ((hunk_Of.f k (([0, (-1)] : List Int)) 1).bind fun t212 => (some ((t212.length : Int) == 1))) else (none))) else (none))) else (none))) else (none))) else (none))) else (none)) else (none))))))
theorem l06_awake.mono : ∀ k, LeO (l06_awake.f k ) (l06_awake.f (k + 1) ) := by
 intro  k
 unfold l06_awake.f
 repeat' first
   | (with_reducible exact r01_Same.mono _ _ _)
   | (with_reducible exact r06_Same.mono _ _ _)
   | (with_reducible exact hunk_Check.mono _ _ _ _)
   | (with_reducible exact hunk_Cost.mono _ _)
   | (with_reducible exact hunk_Invert.mono _ _)
   | (with_reducible exact hunk_Of.mono _ _ _)
   | (with_reducible exact hunk_Patch.mono _ _ _ _)
   | (with_reducible exact hunk_Texts.mono _ _ _)
   | (with_reducible exact LeO.refl _)
   | (with_reducible exact LeO.none _)
   | (with_reducible refine LeO.ite ?_ ?_)
   | (with_reducible refine LeO.bind ?_ (fun _ => ?_))
   | exact r01_Same.mono _ _ _
   | exact r06_Same.mono _ _ _
   | exact hunk_Check.mono _ _ _ _
   | exact hunk_Cost.mono _ _
   | exact hunk_Invert.mono _ _
   | exact hunk_Of.mono _ _ _
   | exact hunk_Patch.mono _ _ _ _
   | exact hunk_Texts.mono _ _ _
   | exact LeO.none _
   | refine LeO.ite ?_ ?_
   | refine LeO.bind ?_ (fun _ => ?_)
set_option maxHeartbeats 8000000 in
set_option maxRecDepth 100000 in
theorem l06_awake.calls (k : Nat)  (r : Bool) (w : World) (h : l06_awake.f k  = some r) :
  Calls Try.prog 7 #[] w fun e w' => e = .returned (.bool r) ∧ Below w.heap.size w w' := by
 have hu40 := Try.underlying40
 have HB := Zm (Below.refl w.heap.size w)
 have H : ((some (([(⟨#[97]⟩ : ByteArray), (⟨#[98]⟩ : ByteArray), (⟨#[99]⟩ : ByteArray)] : List ByteArray) : List ByteArray)).bind fun y185 => ((some (([(⟨#[97]⟩ : ByteArray), (⟨#[120]⟩ : ByteArray), (⟨#[121]⟩ : ByteArray)] : List ByteArray) : List ByteArray)).bind fun y188 => ((hunk_Texts.f k y185 y188).bind fun t191 => ((hunk_Patch.f k y185 t191 y188).bind fun bt194 => ((r06_Same.f k t191 (([(⟨1, 2, 1, 2⟩ : S40)] : List (S40)))).bind fun t201 => (if t201 = true then (if bt194.2 = 0 then ((r01_Same.f k bt194.1 y188).bind fun t202 => (if t202 = true then ((hunk_Cost.f k t191).bind fun t203 => (if t203 = 4 then ((hunk_Check.f k t191 3 3).bind fun t204 => (if t204 = 0 then ((hunk_Check.f k t191 3 4).bind fun t205 => (if t205 = 60 then ((hunk_Invert.f k t191).bind fun t206 => (if (t206.length : Int) = 1 then ((hunk_Of.f k (([0, (-1)] : List Int)) 1).bind fun t212 => (some ((t212.length : Int) == 1))) else (none))) else (none))) else (none))) else (none))) else (none))) else (none)) else (none))))))) = some r := h
 clear h
 obtain ⟨y185, hy185⟩ : ∃ y_ : List ByteArray, y_ = (([(⟨#[97]⟩ : ByteArray), (⟨#[98]⟩ : ByteArray), (⟨#[99]⟩ : ByteArray)] : List ByteArray)) := ⟨_, rfl⟩
 replace H : ((some (([(⟨#[97]⟩ : ByteArray), (⟨#[120]⟩ : ByteArray), (⟨#[121]⟩ : ByteArray)] : List ByteArray) : List ByteArray)).bind fun y188 => ((hunk_Texts.f k y185 y188).bind fun t191 => ((hunk_Patch.f k y185 t191 y188).bind fun bt194 => ((r06_Same.f k t191 (([(⟨1, 2, 1, 2⟩ : S40)] : List (S40)))).bind fun t201 => (if t201 = true then (if bt194.2 = 0 then ((r01_Same.f k bt194.1 y188).bind fun t202 => (if t202 = true then ((hunk_Cost.f k t191).bind fun t203 => (if t203 = 4 then ((hunk_Check.f k t191 3 3).bind fun t204 => (if t204 = 0 then ((hunk_Check.f k t191 3 4).bind fun t205 => (if t205 = 60 then ((hunk_Invert.f k t191).bind fun t206 => (if (t206.length : Int) = 1 then ((hunk_Of.f k (([0, (-1)] : List Int)) 1).bind fun t212 => (some ((t212.length : Int) == 1))) else (none))) else (none))) else (none))) else (none))) else (none))) else (none)) else (none)))))) = some r := by first | (rw [hy185]; with_reducible exact H) | (have H2_ := (Option.bind_some _ _).symm.trans H; rw [hy185]; with_reducible exact H2_) | (have H2_ := (Option.bind_some _ _).symm.trans H; with_reducible exact H2_) | with_reducible exact H | (rw [hy185]; exact H) | exact H
 have Ny185 := Zm hy185
 clear hy185
 obtain ⟨y188, hy188⟩ : ∃ y_ : List ByteArray, y_ = (([(⟨#[97]⟩ : ByteArray), (⟨#[120]⟩ : ByteArray), (⟨#[121]⟩ : ByteArray)] : List ByteArray)) := ⟨_, rfl⟩
 replace H : ((hunk_Texts.f k y185 y188).bind fun t191 => ((hunk_Patch.f k y185 t191 y188).bind fun bt194 => ((r06_Same.f k t191 (([(⟨1, 2, 1, 2⟩ : S40)] : List (S40)))).bind fun t201 => (if t201 = true then (if bt194.2 = 0 then ((r01_Same.f k bt194.1 y188).bind fun t202 => (if t202 = true then ((hunk_Cost.f k t191).bind fun t203 => (if t203 = 4 then ((hunk_Check.f k t191 3 3).bind fun t204 => (if t204 = 0 then ((hunk_Check.f k t191 3 4).bind fun t205 => (if t205 = 60 then ((hunk_Invert.f k t191).bind fun t206 => (if (t206.length : Int) = 1 then ((hunk_Of.f k (([0, (-1)] : List Int)) 1).bind fun t212 => (some ((t212.length : Int) == 1))) else (none))) else (none))) else (none))) else (none))) else (none))) else (none)) else (none))))) = some r := by first | (rw [hy188]; with_reducible exact H) | (have H2_ := (Option.bind_some _ _).symm.trans H; rw [hy188]; with_reducible exact H2_) | (have H2_ := (Option.bind_some _ _).symm.trans H; with_reducible exact H2_) | with_reducible exact H | (rw [hy188]; exact H) | exact H
 have Ny188 := Zm hy188
 clear hy188
 replace H := Option.bind_eq_some_iff.mp H
 obtain ⟨t191, A10, H⟩ := H
 replace H : ((hunk_Patch.f k y185 t191 y188).bind fun bt194 => ((r06_Same.f k t191 (([(⟨1, 2, 1, 2⟩ : S40)] : List (S40)))).bind fun t201 => (if t201 = true then (if bt194.2 = 0 then ((r01_Same.f k bt194.1 y188).bind fun t202 => (if t202 = true then ((hunk_Cost.f k t191).bind fun t203 => (if t203 = 4 then ((hunk_Check.f k t191 3 3).bind fun t204 => (if t204 = 0 then ((hunk_Check.f k t191 3 4).bind fun t205 => (if t205 = 60 then ((hunk_Invert.f k t191).bind fun t206 => (if (t206.length : Int) = 1 then ((hunk_Of.f k (([0, (-1)] : List Int)) 1).bind fun t212 => (some ((t212.length : Int) == 1))) else (none))) else (none))) else (none))) else (none))) else (none))) else (none)) else (none)))) = some r := H
 have A1 := Zm A10
 clear A10
 replace H := Option.bind_eq_some_iff.mp H
 obtain ⟨⟨t194, t195⟩, A20, H⟩ := H
 replace H : ((r06_Same.f k t191 (([(⟨1, 2, 1, 2⟩ : S40)] : List (S40)))).bind fun t201 => (if t201 = true then (if t195 = 0 then ((r01_Same.f k t194 y188).bind fun t202 => (if t202 = true then ((hunk_Cost.f k t191).bind fun t203 => (if t203 = 4 then ((hunk_Check.f k t191 3 3).bind fun t204 => (if t204 = 0 then ((hunk_Check.f k t191 3 4).bind fun t205 => (if t205 = 60 then ((hunk_Invert.f k t191).bind fun t206 => (if (t206.length : Int) = 1 then ((hunk_Of.f k (([0, (-1)] : List Int)) 1).bind fun t212 => (some ((t212.length : Int) == 1))) else (none))) else (none))) else (none))) else (none))) else (none))) else (none)) else (none))) = some r := H
 have A2 := Zm A20
 clear A20
 obtain ⟨y198, hy198⟩ : ∃ y_ : List (S40), y_ = (([(⟨1, 2, 1, 2⟩ : S40)] : List (S40))) := ⟨_, rfl⟩
 replace H : ((r06_Same.f k t191 y198).bind fun t201 => (if t201 = true then (if t195 = 0 then ((r01_Same.f k t194 y188).bind fun t202 => (if t202 = true then ((hunk_Cost.f k t191).bind fun t203 => (if t203 = 4 then ((hunk_Check.f k t191 3 3).bind fun t204 => (if t204 = 0 then ((hunk_Check.f k t191 3 4).bind fun t205 => (if t205 = 60 then ((hunk_Invert.f k t191).bind fun t206 => (if (t206.length : Int) = 1 then ((hunk_Of.f k (([0, (-1)] : List Int)) 1).bind fun t212 => (some ((t212.length : Int) == 1))) else (none))) else (none))) else (none))) else (none))) else (none))) else (none)) else (none))) = some r := by first | (rw [hy198]; with_reducible exact H) | (have H2_ := (Option.bind_some _ _).symm.trans H; rw [hy198]; with_reducible exact H2_) | (have H2_ := (Option.bind_some _ _).symm.trans H; with_reducible exact H2_) | with_reducible exact H | (rw [hy198]; exact H) | exact H
 have Ny198 := Zm hy198
 clear hy198
 replace H := Option.bind_eq_some_iff.mp H
 obtain ⟨t201, A30, H⟩ := H
 replace H : (if t201 = true then (if t195 = 0 then ((r01_Same.f k t194 y188).bind fun t202 => (if t202 = true then ((hunk_Cost.f k t191).bind fun t203 => (if t203 = 4 then ((hunk_Check.f k t191 3 3).bind fun t204 => (if t204 = 0 then ((hunk_Check.f k t191 3 4).bind fun t205 => (if t205 = 60 then ((hunk_Invert.f k t191).bind fun t206 => (if (t206.length : Int) = 1 then ((hunk_Of.f k (([0, (-1)] : List Int)) 1).bind fun t212 => (some ((t212.length : Int) == 1))) else (none))) else (none))) else (none))) else (none))) else (none))) else (none)) else (none)) = some r := H
 have A3 := Zm A30
 clear A30
 by_cases c4 : t201 = true
 ·subst c4
  have H1 : (if t195 = 0 then ((r01_Same.f k t194 y188).bind fun t202 => (if t202 = true then ((hunk_Cost.f k t191).bind fun t203 => (if t203 = 4 then ((hunk_Check.f k t191 3 3).bind fun t204 => (if t204 = 0 then ((hunk_Check.f k t191 3 4).bind fun t205 => (if t205 = 60 then ((hunk_Invert.f k t191).bind fun t206 => (if (t206.length : Int) = 1 then ((hunk_Of.f k (([0, (-1)] : List Int)) 1).bind fun t212 => (some ((t212.length : Int) == 1))) else (none))) else (none))) else (none))) else (none))) else (none))) else (none)) = some r := by rw [if_pos rfl] at H; exact H
  clear H
  have H := H1
  clear H1
  by_cases c5 : t195 = 0
  ·rw [if_pos c5] at H
   have c5b0 : (t195 == 0) = true := beq_iff_eq.mpr c5
   have c5b1 : (t195 != 0) = false := bne_eq_false_iff_eq.mpr c5
   clear c5
   replace H := Option.bind_eq_some_iff.mp H
   obtain ⟨t202, A60, H⟩ := H
   replace H : (if t202 = true then ((hunk_Cost.f k t191).bind fun t203 => (if t203 = 4 then ((hunk_Check.f k t191 3 3).bind fun t204 => (if t204 = 0 then ((hunk_Check.f k t191 3 4).bind fun t205 => (if t205 = 60 then ((hunk_Invert.f k t191).bind fun t206 => (if (t206.length : Int) = 1 then ((hunk_Of.f k (([0, (-1)] : List Int)) 1).bind fun t212 => (some ((t212.length : Int) == 1))) else (none))) else (none))) else (none))) else (none))) else (none)) = some r := H
   have A6 := Zm A60
   clear A60
   by_cases c7 : t202 = true
   ·subst c7
    have H1 : ((hunk_Cost.f k t191).bind fun t203 => (if t203 = 4 then ((hunk_Check.f k t191 3 3).bind fun t204 => (if t204 = 0 then ((hunk_Check.f k t191 3 4).bind fun t205 => (if t205 = 60 then ((hunk_Invert.f k t191).bind fun t206 => (if (t206.length : Int) = 1 then ((hunk_Of.f k (([0, (-1)] : List Int)) 1).bind fun t212 => (some ((t212.length : Int) == 1))) else (none))) else (none))) else (none))) else (none))) = some r := by rw [if_pos rfl] at H; exact H
    clear H
    have H := H1
    clear H1
    replace H := Option.bind_eq_some_iff.mp H
    obtain ⟨t203, A80, H⟩ := H
    replace H : (if t203 = 4 then ((hunk_Check.f k t191 3 3).bind fun t204 => (if t204 = 0 then ((hunk_Check.f k t191 3 4).bind fun t205 => (if t205 = 60 then ((hunk_Invert.f k t191).bind fun t206 => (if (t206.length : Int) = 1 then ((hunk_Of.f k (([0, (-1)] : List Int)) 1).bind fun t212 => (some ((t212.length : Int) == 1))) else (none))) else (none))) else (none))) else (none)) = some r := H
    have A8 := Zm A80
    clear A80
    by_cases c9 : t203 = 4
    ·rw [if_pos c9] at H
     have c9b0 : (t203 == 4) = true := beq_iff_eq.mpr c9
     have c9b1 : (t203 != 4) = false := bne_eq_false_iff_eq.mpr c9
     clear c9
     replace H := Option.bind_eq_some_iff.mp H
     obtain ⟨t204, A100, H⟩ := H
     replace H : (if t204 = 0 then ((hunk_Check.f k t191 3 4).bind fun t205 => (if t205 = 60 then ((hunk_Invert.f k t191).bind fun t206 => (if (t206.length : Int) = 1 then ((hunk_Of.f k (([0, (-1)] : List Int)) 1).bind fun t212 => (some ((t212.length : Int) == 1))) else (none))) else (none))) else (none)) = some r := H
     have A10 := Zm A100
     clear A100
     by_cases c11 : t204 = 0
     ·rw [if_pos c11] at H
      have c11b0 : (t204 == 0) = true := beq_iff_eq.mpr c11
      have c11b1 : (t204 != 0) = false := bne_eq_false_iff_eq.mpr c11
      clear c11
      replace H := Option.bind_eq_some_iff.mp H
      obtain ⟨t205, A120, H⟩ := H
      replace H : (if t205 = 60 then ((hunk_Invert.f k t191).bind fun t206 => (if (t206.length : Int) = 1 then ((hunk_Of.f k (([0, (-1)] : List Int)) 1).bind fun t212 => (some ((t212.length : Int) == 1))) else (none))) else (none)) = some r := H
      have A12 := Zm A120
      clear A120
      by_cases c13 : t205 = 60
      ·rw [if_pos c13] at H
       have c13b0 : (t205 == 60) = true := beq_iff_eq.mpr c13
       have c13b1 : (t205 != 60) = false := bne_eq_false_iff_eq.mpr c13
       clear c13
       replace H := Option.bind_eq_some_iff.mp H
       obtain ⟨t206, A140, H⟩ := H
       replace H : (if (t206.length : Int) = 1 then ((hunk_Of.f k (([0, (-1)] : List Int)) 1).bind fun t212 => (some ((t212.length : Int) == 1))) else (none)) = some r := H
       have A14 := Zm A140
       clear A140
       by_cases c15 : (t206.length : Int) = 1
       ·rw [if_pos c15] at H
        have c15b0 : ((t206.length : Int) == 1) = true := beq_iff_eq.mpr c15
        have c15b1 : ((t206.length : Int) != 1) = false := bne_eq_false_iff_eq.mpr c15
        clear c15
        obtain ⟨y209, hy209⟩ : ∃ y_ : List Int, y_ = (([0, (-1)] : List Int)) := ⟨_, rfl⟩
        replace H : ((hunk_Of.f k y209 1).bind fun t212 => (some ((t212.length : Int) == 1))) = some r := by first | (rw [hy209]; with_reducible exact H) | (have H2_ := (Option.bind_some _ _).symm.trans H; rw [hy209]; with_reducible exact H2_) | (have H2_ := (Option.bind_some _ _).symm.trans H; with_reducible exact H2_) | with_reducible exact H | (rw [hy209]; exact H) | exact H
        have Ny209 := Zm hy209
        clear hy209
        replace H := Option.bind_eq_some_iff.mp H
        obtain ⟨t212, A160, H⟩ := H
        replace H : (some ((t212.length : Int) == 1)) = some r := H
        have A16 := Zm A160
        clear A160
        obtain rfl := Option.some.inj H
        go_enter Try.func7, Try.ntmps7
        go_wp2_with (first | ((with_reducible refine gate_dst (N := 6) rfl ?_); (try (refine gate_guard (by rfl) ?_; dsimp only)); refine Kd.R_lit Kd.string _ 9 ?hg (N := 6) ?hd (xs := ([(⟨#[97]⟩ : ByteArray), (⟨#[98]⟩ : ByteArray), (⟨#[99]⟩ : ByteArray)] : List ByteArray)) (inner := [.string (⟨#[97]⟩ : ByteArray), .string (⟨#[98]⟩ : ByteArray), .string (⟨#[99]⟩ : ByteArray)]) (ok := fun _ => True) (okp := fun _ => True) ?hr ?hp (fun _ hk => hk) trivial (Below.refl _ _) (Nat.le_refl _) (by simp) ?_; (case hd => rfl); (case hg => rfl); (case hr => first | (go_simp; done) | (go_simp; rfl)); (case hp => exact (Reps.one (show Kd.M Kd.string _ _ _ (⟨#[97]⟩ : ByteArray) [.string (⟨#[97]⟩ : ByteArray)] from rfl) (Reps.one (show Kd.M Kd.string _ _ _ (⟨#[98]⟩ : ByteArray) [.string (⟨#[98]⟩ : ByteArray)] from rfl) (Reps.one (show Kd.M Kd.string _ _ _ (⟨#[99]⟩ : ByteArray) [.string (⟨#[99]⟩ : ByteArray)] from rfl) (Reps.none _ _))))); intro v186 w17 ho18 hb hg_ hnew_; clear hg_ hnew_; (first | rw [← Ny185.out] at ho18 | (simp only [Int.reduceToNat] at ho18; rw [← Ny185.out] at ho18)); have n0_ := Zm (Kd.R_lower ho18 (below_size (by repeat (first | (with_reducible first | exact HB.out | apply below_alloc | apply Zd | apply below_drew1) | exact HB.out)))); have n1_ := Zm (below_step (by repeat (first | (with_reducible first | exact HB.out | apply below_alloc | apply Zd | apply below_drew1) | exact HB.out)) hb); clear HB; have HO187 := n0_; have HB := n1_; clear n0_ n1_; clear hb ho18) | ((with_reducible refine gate_dst (N := 7) rfl ?_); (try (refine gate_guard (by rfl) ?_; dsimp only)); refine Kd.R_lit Kd.string _ 9 ?hg (N := 7) ?hd (xs := ([(⟨#[97]⟩ : ByteArray), (⟨#[120]⟩ : ByteArray), (⟨#[121]⟩ : ByteArray)] : List ByteArray)) (inner := [.string (⟨#[97]⟩ : ByteArray), .string (⟨#[120]⟩ : ByteArray), .string (⟨#[121]⟩ : ByteArray)]) (ok := fun _ => True) (okp := fun _ => True) ?hr ?hp (fun _ hk => hk) trivial (Below.refl _ _) (Nat.le_refl _) (by simp) ?_; (case hd => rfl); (case hg => rfl); (case hr => first | (go_simp; done) | (go_simp; rfl)); (case hp => exact (Reps.one (show Kd.M Kd.string _ _ _ (⟨#[97]⟩ : ByteArray) [.string (⟨#[97]⟩ : ByteArray)] from rfl) (Reps.one (show Kd.M Kd.string _ _ _ (⟨#[120]⟩ : ByteArray) [.string (⟨#[120]⟩ : ByteArray)] from rfl) (Reps.one (show Kd.M Kd.string _ _ _ (⟨#[121]⟩ : ByteArray) [.string (⟨#[121]⟩ : ByteArray)] from rfl) (Reps.none _ _))))); intro v189 w19 ho20 hb hg_ hnew_; clear hg_ hnew_; (first | rw [← Ny188.out] at ho20 | (simp only [Int.reduceToNat] at ho20; rw [← Ny188.out] at ho20)); have n0_ := Zm (Kd.R_elder' (by (with_reducible repeat (first | apply Kd.R_alloc | apply Kd.R_drewN | apply Kd.R_drew)); exact HO187.out) (Kd.R_base ho20) hb); have n1_ := Zm (Kd.R_lower (Kd.R_new' ho20 (Kd.R_lt (by (with_reducible repeat (first | apply Kd.R_alloc | apply Kd.R_drewN | apply Kd.R_drew)); exact HO187.out))) (below_size (by repeat (first | (with_reducible first | exact HB.out | apply below_alloc | apply Zd | apply below_drew1) | exact HB.out)))); have n2_ := Zm (below_step (by repeat (first | (with_reducible first | exact HB.out | apply below_alloc | apply Zd | apply below_drew1) | exact HB.out)) hb); clear HO187; clear HB; have HO187 := n0_; have HO190 := n1_; have HB := n2_; clear n0_ n1_ n2_; clear hb ho20; obtain ⟨Ao21, co21, eo21⟩ := Kd.R_slice HO187.out; subst eo21; obtain ⟨Ao22, co22, eo22⟩ := Kd.R_slice HO190.out; subst eo22) | ((with_reducible refine gate_callee (f := 11) rfl ?_); refine goesL_ (some 10) rfl rfl Try.func11 (by kernel_rfl) rfl #[.slice Ao21 y185.length co21, .slice Ao22 y188.length co22] rfl (by (try simp only [List.map_toArray, List.map_cons, List.map_nil]); first | done | rfl | (simp only [List.length_drop, List.length_take]; rfl)) ?_; (with_reducible refine (hunk_Texts.calls k _ _ y185 _ _ y188 t191 _ ?side1 ?side2 ?side3 ?side4 A1.out).mono ?_); (case side1 => repeat (first | exact (Kd.R_reads' HO187.out).2.2 | (with_reducible refine Kd.C_alloc ?_ _) | (with_reducible refine Kd.C_drewN ?_ _) | (with_reducible refine Kd.C_drew ?_))); (case side2 => exact (Kd.R_reads' HO187.out).2.1); (case side3 => repeat (first | exact (Kd.R_reads' HO190.out).2.2 | (with_reducible refine Kd.C_alloc ?_ _) | (with_reducible refine Kd.C_drewN ?_ _) | (with_reducible refine Kd.C_drew ?_))); (case side4 => exact (Kd.R_reads' HO190.out).2.1); rintro e w23 ⟨v192, rfl, ho0, hb⟩; refine ⟨_, rfl, ?_⟩; have n0_ := Zm (Kd.R_below (by (with_reducible repeat (first | apply Kd.R_alloc | apply Kd.R_drewN | apply Kd.R_drew)); exact HO187.out) hb); have n1_ := Zm (Kd.R_below (by (with_reducible repeat (first | apply Kd.R_alloc | apply Kd.R_drewN | apply Kd.R_drew)); exact HO190.out) hb); have n2_ := Zm (Kd.R_lower ho0 (below_size (by repeat (first | (with_reducible first | exact HB.out | apply below_alloc | apply Zd | apply below_drew1) | exact HB.out)))); have n3_ := Zm (below_step (by repeat (first | (with_reducible first | exact HB.out | apply below_alloc | apply Zd | apply below_drew1) | exact HB.out)) hb); clear HO187; clear HO190; clear HB; have HO187 := n0_; have HO190 := n1_; have HO193 := n2_; have HB := n3_; clear n0_ n1_ n2_ n3_; (try clear hb); (try clear hb2); (try clear hk); (try clear hi); (try clear ho0); obtain ⟨Ao24, co24, eo24⟩ := Kd.R_slice HO193.out; subst eo24) | ((with_reducible refine gate_callee (f := 14) rfl ?_); refine goesL_ (some 15) rfl rfl Try.func14 (by kernel_rfl) rfl #[.slice Ao21 y185.length co21, .slice Ao24 t191.length co24, .slice Ao22 y188.length co22] rfl (by (try simp only [List.map_toArray, List.map_cons, List.map_nil]); first | done | rfl | (simp only [List.length_drop, List.length_take]; rfl)) ?_; (with_reducible refine (hunk_Patch.calls k _ _ y185 _ _ t191 _ _ y188 t194 t195 _ ?side1 ?side2 ?side3 ?side4 ?side5 ?side6 A2.out).mono ?_); (case side1 => repeat (first | exact (Kd.R_reads' HO187.out).2.2 | (with_reducible refine Kd.C_alloc ?_ _) | (with_reducible refine Kd.C_drewN ?_ _) | (with_reducible refine Kd.C_drew ?_))); (case side2 => exact (Kd.R_reads' HO187.out).2.1); (case side3 => repeat (first | exact (Kd.R_reads' HO193.out).2.2 | (with_reducible refine Kd.C_alloc ?_ _) | (with_reducible refine Kd.C_drewN ?_ _) | (with_reducible refine Kd.C_drew ?_))); (case side4 => exact (Kd.R_reads' HO193.out).2.1); (case side5 => repeat (first | exact (Kd.R_reads' HO190.out).2.2 | (with_reducible refine Kd.C_alloc ?_ _) | (with_reducible refine Kd.C_drewN ?_ _) | (with_reducible refine Kd.C_drew ?_))); (case side6 => exact (Kd.R_reads' HO190.out).2.1); rintro e w25 ⟨v196, rfl, ho0, hb⟩; refine ⟨_, rfl, ?_⟩; have n0_ := Zm (Kd.R_elder' (by (with_reducible repeat (first | apply Kd.R_alloc | apply Kd.R_drewN | apply Kd.R_drew)); exact HO187.out) (Kd.R_base ho0) hb); have n1_ := Zm (Kd.R_elder' (by (with_reducible repeat (first | apply Kd.R_alloc | apply Kd.R_drewN | apply Kd.R_drew)); exact HO190.out) (Kd.R_base ho0) hb); have n2_ := Zm (Kd.R_below (by (with_reducible repeat (first | apply Kd.R_alloc | apply Kd.R_drewN | apply Kd.R_drew)); exact HO193.out) hb); have n3_ := Zm (Kd.R_lower (Kd.R_new' (Kd.R_new' ho0 (Kd.R_lt (by (with_reducible repeat (first | apply Kd.R_alloc | apply Kd.R_drewN | apply Kd.R_drew)); exact HO187.out))) (Kd.R_lt (by (with_reducible repeat (first | apply Kd.R_alloc | apply Kd.R_drewN | apply Kd.R_drew)); exact HO190.out))) (below_size (by repeat (first | (with_reducible first | exact HB.out | apply below_alloc | apply Zd | apply below_drew1) | exact HB.out)))); have n4_ := Zm (below_step (by repeat (first | (with_reducible first | exact HB.out | apply below_alloc | apply Zd | apply below_drew1) | exact HB.out)) hb); clear HO187; clear HO190; clear HO193; clear HB; have HO187 := n0_; have HO190 := n1_; have HO193 := n2_; have HO197 := n3_; have HB := n4_; clear n0_ n1_ n2_ n3_ n4_; (try clear hb); (try clear hb2); (try clear hk); (try clear hi); (try clear ho0)) | ((with_reducible refine gate_dst (N := 20) rfl ?_); (try (refine gate_guard (by rfl) ?_; dsimp only)); refine Kd.R_lit k40 _ 40 ?hg (N := 20) ?hd (xs := ([(⟨1, 2, 1, 2⟩ : S40)] : List (S40))) (inner := [.int .i64 1, .int .i64 2, .int .i64 1, .int .i64 2]) (ok := fun _ => True) (okp := fun _ => True) ?hr ?hp (fun _ hk => hk) trivial (Below.refl _ _) (Nat.le_refl _) (by simp) ?_; (case hd => rfl); (case hg => rfl); (case hr => first | (go_simp; done) | (go_simp; rfl)); (case hp => exact (Reps.c4 (show Kd.M k40 _ _ _ (⟨1, 2, 1, 2⟩ : S40) [.int .i64 1, .int .i64 2, .int .i64 1, .int .i64 2] from (k40_mkM _ _ _ (⟨1, 2, 1, 2⟩ : S40) )) (Reps.none _ _))); intro v199 w26 ho27 hb hg_ hnew_; clear hg_ hnew_; (first | rw [← Ny198.out] at ho27 | (simp only [Int.reduceToNat] at ho27; rw [← Ny198.out] at ho27)); have n0_ := Zm (Kd.R_below (by (with_reducible repeat (first | apply Kd.R_alloc | apply Kd.R_drewN | apply Kd.R_drew)); exact HO187.out) hb); have n1_ := Zm (Kd.R_below (by (with_reducible repeat (first | apply Kd.R_alloc | apply Kd.R_drewN | apply Kd.R_drew)); exact HO190.out) hb); have n2_ := Zm (Kd.R_elder' (by (with_reducible repeat (first | apply Kd.R_alloc | apply Kd.R_drewN | apply Kd.R_drew)); exact HO193.out) (Kd.R_base ho27) hb); have n3_ := Zm (Kd.R_below (by (with_reducible repeat (first | apply Kd.R_alloc | apply Kd.R_drewN | apply Kd.R_drew)); exact HO197.out) hb); have n4_ := Zm (Kd.R_lower (Kd.R_new' ho27 (Kd.R_lt (by (with_reducible repeat (first | apply Kd.R_alloc | apply Kd.R_drewN | apply Kd.R_drew)); exact HO193.out))) (below_size (by repeat (first | (with_reducible first | exact HB.out | apply below_alloc | apply Zd | apply below_drew1) | exact HB.out)))); have n5_ := Zm (below_step (by repeat (first | (with_reducible first | exact HB.out | apply below_alloc | apply Zd | apply below_drew1) | exact HB.out)) hb); clear HO187; clear HO190; clear HO193; clear HO197; clear HB; have HO187 := n0_; have HO190 := n1_; have HO193 := n2_; have HO197 := n3_; have HO200 := n4_; have HB := n5_; clear n0_ n1_ n2_ n3_ n4_ n5_; clear hb ho27; obtain ⟨Ao28, co28, eo28⟩ := Kd.R_slice HO200.out; subst eo28) | ((with_reducible refine gate_callee (f := 8) rfl ?_); refine goesL_ (some 21) rfl rfl Try.func8 (by kernel_rfl) rfl #[.slice Ao24 t191.length co24, .slice Ao28 y198.length co28] rfl (by (try simp only [List.map_toArray, List.map_cons, List.map_nil]); first | done | rfl | (simp only [List.length_drop, List.length_take]; rfl)) ?_; (with_reducible refine (r06_Same.calls k _ _ t191 _ _ y198 true _ ?side1 ?side2 ?side3 ?side4 A3.out).mono ?_); (case side1 => repeat (first | exact (Kd.R_reads' HO193.out).2.2 | (with_reducible refine Kd.C_alloc ?_ _) | (with_reducible refine Kd.C_drewN ?_ _) | (with_reducible refine Kd.C_drew ?_))); (case side2 => exact (Kd.R_reads' HO193.out).2.1); (case side3 => repeat (first | exact (Kd.R_reads' HO200.out).2.2 | (with_reducible refine Kd.C_alloc ?_ _) | (with_reducible refine Kd.C_drewN ?_ _) | (with_reducible refine Kd.C_drew ?_))); (case side4 => exact (Kd.R_reads' HO200.out).2.1); rintro e w' ⟨rfl, ⟨nd, rfl⟩⟩; refine ⟨_, rfl, ?_⟩; obtain ⟨Ao29, co29, eo29⟩ := Kd.R_slice HO197.out; subst eo29) | (go_at_call 18; (with_reducible refine (r01_Same.calls k _ _ t194 _ _ y188 true _ ?side1 ?side2 ?side3 ?side4 A6.out).mono ?_); (case side1 => repeat (first | exact (Kd.R_reads' HO197.out).2.2 | (with_reducible refine Kd.C_alloc ?_ _) | (with_reducible refine Kd.C_drewN ?_ _) | (with_reducible refine Kd.C_drew ?_))); (case side2 => exact (Kd.R_reads' HO197.out).2.1); (case side3 => repeat (first | exact (Kd.R_reads' HO190.out).2.2 | (with_reducible refine Kd.C_alloc ?_ _) | (with_reducible refine Kd.C_drewN ?_ _) | (with_reducible refine Kd.C_drew ?_))); (case side4 => exact (Kd.R_reads' HO190.out).2.1); rintro e w' ⟨rfl, ⟨nd, rfl⟩⟩) | (go_at_call 21; (with_reducible refine (hunk_Cost.calls k _ _ t191 t203 _ ?side1 ?side2 A8.out).mono ?_); (case side1 => repeat (first | exact (Kd.R_reads' HO193.out).2.2 | (with_reducible refine Kd.C_alloc ?_ _) | (with_reducible refine Kd.C_drewN ?_ _) | (with_reducible refine Kd.C_drew ?_))); (case side2 => exact (Kd.R_reads' HO193.out).2.1); rintro e w30 ⟨rfl, hb⟩; have n0_ := Zm (Kd.R_below (by (with_reducible repeat (first | apply Kd.R_alloc | apply Kd.R_drewN | apply Kd.R_drew)); exact HO187.out) hb); have n1_ := Zm (Kd.R_below (by (with_reducible repeat (first | apply Kd.R_alloc | apply Kd.R_drewN | apply Kd.R_drew)); exact HO190.out) hb); have n2_ := Zm (Kd.R_below (by (with_reducible repeat (first | apply Kd.R_alloc | apply Kd.R_drewN | apply Kd.R_drew)); exact HO193.out) hb); have n3_ := Zm (Kd.R_below (by (with_reducible repeat (first | apply Kd.R_alloc | apply Kd.R_drewN | apply Kd.R_drew)); exact HO197.out) hb); have n4_ := Zm (Kd.R_below (by (with_reducible repeat (first | apply Kd.R_alloc | apply Kd.R_drewN | apply Kd.R_drew)); exact HO200.out) hb); have n5_ := Zm (below_step (by repeat (first | (with_reducible first | exact HB.out | apply below_alloc | apply Zd | apply below_drew1) | exact HB.out)) hb); clear HO187; clear HO190; clear HO193; clear HO197; clear HO200; clear HB; have HO187 := n0_; have HO190 := n1_; have HO193 := n2_; have HO197 := n3_; have HO200 := n4_; have HB := n5_; clear n0_ n1_ n2_ n3_ n4_ n5_; (try clear hb); (try clear hb2); (try clear hk); (try clear hi)) | (go_at_call 17; (with_reducible refine (hunk_Check.calls k _ _ t191 3 3 t204 _ ?side1 ?side2 A10.out).mono ?_); (case side1 => repeat (first | exact (Kd.R_reads' HO193.out).2.2 | (with_reducible refine Kd.C_alloc ?_ _) | (with_reducible refine Kd.C_drewN ?_ _) | (with_reducible refine Kd.C_drew ?_))); (case side2 => exact (Kd.R_reads' HO193.out).2.1); rintro e w31 ⟨rfl, hb⟩; have n0_ := Zm (Kd.R_below (by (with_reducible repeat (first | apply Kd.R_alloc | apply Kd.R_drewN | apply Kd.R_drew)); exact HO187.out) hb); have n1_ := Zm (Kd.R_below (by (with_reducible repeat (first | apply Kd.R_alloc | apply Kd.R_drewN | apply Kd.R_drew)); exact HO190.out) hb); have n2_ := Zm (Kd.R_below (by (with_reducible repeat (first | apply Kd.R_alloc | apply Kd.R_drewN | apply Kd.R_drew)); exact HO193.out) hb); have n3_ := Zm (Kd.R_below (by (with_reducible repeat (first | apply Kd.R_alloc | apply Kd.R_drewN | apply Kd.R_drew)); exact HO197.out) hb); have n4_ := Zm (Kd.R_below (by (with_reducible repeat (first | apply Kd.R_alloc | apply Kd.R_drewN | apply Kd.R_drew)); exact HO200.out) hb); have n5_ := Zm (below_step (by repeat (first | (with_reducible first | exact HB.out | apply below_alloc | apply Zd | apply below_drew1) | exact HB.out)) hb); clear HO187; clear HO190; clear HO193; clear HO197; clear HO200; clear HB; have HO187 := n0_; have HO190 := n1_; have HO193 := n2_; have HO197 := n3_; have HO200 := n4_; have HB := n5_; clear n0_ n1_ n2_ n3_ n4_ n5_; (try clear hb); (try clear hb2); (try clear hk); (try clear hi)) | (go_at_call 17; (with_reducible refine (hunk_Check.calls k _ _ t191 3 4 t205 _ ?side1 ?side2 A12.out).mono ?_); (case side1 => repeat (first | exact (Kd.R_reads' HO193.out).2.2 | (with_reducible refine Kd.C_alloc ?_ _) | (with_reducible refine Kd.C_drewN ?_ _) | (with_reducible refine Kd.C_drew ?_))); (case side2 => exact (Kd.R_reads' HO193.out).2.1); rintro e w32 ⟨rfl, hb⟩; have n0_ := Zm (Kd.R_below (by (with_reducible repeat (first | apply Kd.R_alloc | apply Kd.R_drewN | apply Kd.R_drew)); exact HO187.out) hb); have n1_ := Zm (Kd.R_below (by (with_reducible repeat (first | apply Kd.R_alloc | apply Kd.R_drewN | apply Kd.R_drew)); exact HO190.out) hb); have n2_ := Zm (Kd.R_below (by (with_reducible repeat (first | apply Kd.R_alloc | apply Kd.R_drewN | apply Kd.R_drew)); exact HO193.out) hb); have n3_ := Zm (Kd.R_below (by (with_reducible repeat (first | apply Kd.R_alloc | apply Kd.R_drewN | apply Kd.R_drew)); exact HO197.out) hb); have n4_ := Zm (Kd.R_below (by (with_reducible repeat (first | apply Kd.R_alloc | apply Kd.R_drewN | apply Kd.R_drew)); exact HO200.out) hb); have n5_ := Zm (below_step (by repeat (first | (with_reducible first | exact HB.out | apply below_alloc | apply Zd | apply below_drew1) | exact HB.out)) hb); clear HO187; clear HO190; clear HO193; clear HO197; clear HO200; clear HB; have HO187 := n0_; have HO190 := n1_; have HO193 := n2_; have HO197 := n3_; have HO200 := n4_; have HB := n5_; clear n0_ n1_ n2_ n3_ n4_ n5_; (try clear hb); (try clear hb2); (try clear hk); (try clear hi)) | (go_at_call 19; (with_reducible refine (hunk_Invert.calls k _ _ t191 t206 _ ?side1 ?side2 A14.out).mono ?_); (case side1 => repeat (first | exact (Kd.R_reads' HO193.out).2.2 | (with_reducible refine Kd.C_alloc ?_ _) | (with_reducible refine Kd.C_drewN ?_ _) | (with_reducible refine Kd.C_drew ?_))); (case side2 => exact (Kd.R_reads' HO193.out).2.1); rintro e w33 ⟨v207, rfl, ho0, hb⟩; have n0_ := Zm (Kd.R_below (by (with_reducible repeat (first | apply Kd.R_alloc | apply Kd.R_drewN | apply Kd.R_drew)); exact HO187.out) hb); have n1_ := Zm (Kd.R_below (by (with_reducible repeat (first | apply Kd.R_alloc | apply Kd.R_drewN | apply Kd.R_drew)); exact HO190.out) hb); have n2_ := Zm (Kd.R_elder' (by (with_reducible repeat (first | apply Kd.R_alloc | apply Kd.R_drewN | apply Kd.R_drew)); exact HO193.out) (Kd.R_base ho0) hb); have n3_ := Zm (Kd.R_below (by (with_reducible repeat (first | apply Kd.R_alloc | apply Kd.R_drewN | apply Kd.R_drew)); exact HO197.out) hb); have n4_ := Zm (Kd.R_elder' (by (with_reducible repeat (first | apply Kd.R_alloc | apply Kd.R_drewN | apply Kd.R_drew)); exact HO200.out) (Kd.R_base ho0) hb); have n5_ := Zm (Kd.R_lower (Kd.R_new' (Kd.R_new' ho0 (Kd.R_lt (by (with_reducible repeat (first | apply Kd.R_alloc | apply Kd.R_drewN | apply Kd.R_drew)); exact HO193.out))) (Kd.R_lt (by (with_reducible repeat (first | apply Kd.R_alloc | apply Kd.R_drewN | apply Kd.R_drew)); exact HO200.out))) (below_size (by repeat (first | (with_reducible first | exact HB.out | apply below_alloc | apply Zd | apply below_drew1) | exact HB.out)))); have n6_ := Zm (below_step (by repeat (first | (with_reducible first | exact HB.out | apply below_alloc | apply Zd | apply below_drew1) | exact HB.out)) hb); clear HO187; clear HO190; clear HO193; clear HO197; clear HO200; clear HB; have HO187 := n0_; have HO190 := n1_; have HO193 := n2_; have HO197 := n3_; have HO200 := n4_; have HO208 := n5_; have HB := n6_; clear n0_ n1_ n2_ n3_ n4_ n5_ n6_; (try clear hb); (try clear hb2); (try clear hk); (try clear hi); (try clear ho0); obtain ⟨Ao34, co34, eo34⟩ := Kd.R_slice HO208.out; subst eo34) | ((with_reducible refine gate_dst (N := 53) rfl ?_); (try (refine gate_guard (by rfl) ?_; dsimp only)); refine Kd.R_lit (Kd.int .i64) _ 3 ?hg (N := 53) ?hd (xs := ([0, (-1)] : List Int)) (inner := [.int .i64 0, .int .i64 (-1)]) (ok := fun _ => True) (okp := fun _ => True) ?hr ?hp (fun _ hk => hk) trivial (Below.refl _ _) (Nat.le_refl _) (by simp) ?_; (case hd => rfl); (case hg => rfl); (case hr => first | (go_simp; done) | (go_simp; rfl)); (case hp => exact (Reps.one (show Kd.M (Kd.int .i64) _ _ _ 0 [.int .i64 0] from rfl) (Reps.one (show Kd.M (Kd.int .i64) _ _ _ (-1) [.int .i64 (-1)] from rfl) (Reps.none _ _)))); intro v210 w35 ho36 hb hg_ hnew_; clear hg_ hnew_; (first | rw [← Ny209.out] at ho36 | (simp only [Int.reduceToNat] at ho36; rw [← Ny209.out] at ho36)); have n0_ := Zm (Kd.R_below (by (with_reducible repeat (first | apply Kd.R_alloc | apply Kd.R_drewN | apply Kd.R_drew)); exact HO187.out) hb); have n1_ := Zm (Kd.R_below (by (with_reducible repeat (first | apply Kd.R_alloc | apply Kd.R_drewN | apply Kd.R_drew)); exact HO190.out) hb); have n2_ := Zm (Kd.R_below (by (with_reducible repeat (first | apply Kd.R_alloc | apply Kd.R_drewN | apply Kd.R_drew)); exact HO193.out) hb); have n3_ := Zm (Kd.R_below (by (with_reducible repeat (first | apply Kd.R_alloc | apply Kd.R_drewN | apply Kd.R_drew)); exact HO197.out) hb); have n4_ := Zm (Kd.R_below (by (with_reducible repeat (first | apply Kd.R_alloc | apply Kd.R_drewN | apply Kd.R_drew)); exact HO200.out) hb); have n5_ := Zm (Kd.R_below (by (with_reducible repeat (first | apply Kd.R_alloc | apply Kd.R_drewN | apply Kd.R_drew)); exact HO208.out) hb); have n6_ := Zm (Kd.R_lower ho36 (below_size (by repeat (first | (with_reducible first | exact HB.out | apply below_alloc | apply Zd | apply below_drew1) | exact HB.out)))); have n7_ := Zm (below_step (by repeat (first | (with_reducible first | exact HB.out | apply below_alloc | apply Zd | apply below_drew1) | exact HB.out)) hb); clear HO187; clear HO190; clear HO193; clear HO197; clear HO200; clear HO208; clear HB; have HO187 := n0_; have HO190 := n1_; have HO193 := n2_; have HO197 := n3_; have HO200 := n4_; have HO208 := n5_; have HO211 := n6_; have HB := n7_; clear n0_ n1_ n2_ n3_ n4_ n5_ n6_ n7_; clear hb ho36; obtain ⟨Ao37, co37, eo37⟩ := Kd.R_slice HO211.out; subst eo37) | (go_at_call 9; (with_reducible refine (hunk_Of.calls k _ _ y209 1 t212 _ ?side1 ?side2 A16.out).mono ?_); (case side1 => repeat (first | exact (Kd.R_reads' HO211.out).2.2 | (with_reducible refine Kd.C_alloc ?_ _) | (with_reducible refine Kd.C_drewN ?_ _) | (with_reducible refine Kd.C_drew ?_))); (case side2 => exact (Kd.R_reads' HO211.out).2.1); rintro e w38 ⟨v213, rfl, ho0, hb⟩; have n0_ := Zm (Kd.R_below (by (with_reducible repeat (first | apply Kd.R_alloc | apply Kd.R_drewN | apply Kd.R_drew)); exact HO187.out) hb); have n1_ := Zm (Kd.R_below (by (with_reducible repeat (first | apply Kd.R_alloc | apply Kd.R_drewN | apply Kd.R_drew)); exact HO190.out) hb); have n2_ := Zm (Kd.R_elder' (by (with_reducible repeat (first | apply Kd.R_alloc | apply Kd.R_drewN | apply Kd.R_drew)); exact HO193.out) (Kd.R_base ho0) hb); have n3_ := Zm (Kd.R_below (by (with_reducible repeat (first | apply Kd.R_alloc | apply Kd.R_drewN | apply Kd.R_drew)); exact HO197.out) hb); have n4_ := Zm (Kd.R_elder' (by (with_reducible repeat (first | apply Kd.R_alloc | apply Kd.R_drewN | apply Kd.R_drew)); exact HO200.out) (Kd.R_base ho0) hb); have n5_ := Zm (Kd.R_elder' (by (with_reducible repeat (first | apply Kd.R_alloc | apply Kd.R_drewN | apply Kd.R_drew)); exact HO208.out) (Kd.R_base ho0) hb); have n6_ := Zm (Kd.R_below (by (with_reducible repeat (first | apply Kd.R_alloc | apply Kd.R_drewN | apply Kd.R_drew)); exact HO211.out) hb); have n7_ := Zm (Kd.R_lower (Kd.R_new' (Kd.R_new' (Kd.R_new' ho0 (Kd.R_lt (by (with_reducible repeat (first | apply Kd.R_alloc | apply Kd.R_drewN | apply Kd.R_drew)); exact HO193.out))) (Kd.R_lt (by (with_reducible repeat (first | apply Kd.R_alloc | apply Kd.R_drewN | apply Kd.R_drew)); exact HO200.out))) (Kd.R_lt (by (with_reducible repeat (first | apply Kd.R_alloc | apply Kd.R_drewN | apply Kd.R_drew)); exact HO208.out))) (below_size (by repeat (first | (with_reducible first | exact HB.out | apply below_alloc | apply Zd | apply below_drew1) | exact HB.out)))); have n8_ := Zm (below_step (by repeat (first | (with_reducible first | exact HB.out | apply below_alloc | apply Zd | apply below_drew1) | exact HB.out)) hb); clear HO187; clear HO190; clear HO193; clear HO197; clear HO200; clear HO208; clear HO211; clear HB; have HO187 := n0_; have HO190 := n1_; have HO193 := n2_; have HO197 := n3_; have HO200 := n4_; have HO208 := n5_; have HO211 := n6_; have HO214 := n7_; have HB := n8_; clear n0_ n1_ n2_ n3_ n4_ n5_ n6_ n7_ n8_; (try clear hb); (try clear hb2); (try clear hk); (try clear hi); (try clear ho0); obtain ⟨Ao39, co39, eo39⟩ := Kd.R_slice HO214.out; subst eo39))
        go_ret
        exact ⟨by first | rfl | (simp [errW_none, errW_some] <;> rfl) | (simp [*, errW_none, errW_some] <;> rfl), by repeat (first | (with_reducible first | exact HB.out | apply below_alloc | apply Zd | apply below_drew1) | exact HB.out)⟩
       ·rw [if_neg c15] at H
        exact absurd H (by simp)
      ·rw [if_neg c13] at H
       exact absurd H (by simp)
     ·rw [if_neg c11] at H
      exact absurd H (by simp)
    ·rw [if_neg c9] at H
     exact absurd H (by simp)
   ·replace c7 := Bool.eq_false_iff.mpr c7
    subst c7
    have H1 : (none) = some r := by rw [if_neg (show ¬ (false = true) by decide)] at H; exact H
    clear H
    have H := H1
    clear H1
    exact absurd H (by simp)
  ·rw [if_neg c5] at H
   exact absurd H (by simp)
 ·replace c4 := Bool.eq_false_iff.mpr c4
  subst c4
  have H1 : (none) = some r := by rw [if_neg (show ¬ (false = true) by decide)] at H; exact H
  clear H
  have H := H1
  clear H1
  exact absurd H (by simp)
/-! ### r06_match: function 26 -/
end Go.Proofs.Ytphghffdaceaoaa.PHunk
