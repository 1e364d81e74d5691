-- PRINTED BY print.sh 35421559b90ae4d0a3588c463048766b98c2df88dd9212a6774a882060cdf62d: not written by this session
import Derived.Test.YtlballjigibphaaPCodecLimitsx0
namespace Go.Proofs.Ytlballjigibphaa.PCodecLimits
open Go.RowKit Go.Proofs.YtlballjigibphaaW.PrintWords Go.Proofs.YtlballjigibphaaW.PrintLast Go.Proofs.YtlballjigibphaaW.PrintMore
attribute [local go_sem] max2_int min2_int max_two min_two max_three min_three max_four min_four   -- for this text's walks alone
set_option linter.unusedVariables false
set_option linter.unusedSimpArgs false

-- NOT PRINTED: function 29 (codec_writer_numbers)

-- NOT PRINTED: function 30 (codec_writer_list)

-- NOT PRINTED: function 47 (codec_writer_taps)

-- NOT PRINTED: function 31 (codec_writer_stage)

-- NOT PRINTED: function 11 (codec_Encode)

/-! ### tilefarmref4_Same: function 32 -/
def tilefarmref4_Same.l0 : Nat → List Int → List Int → Int → Option (Bool)
  | 0, _, _, _ => none
  | k + 1, x0, x1, x5 => if x5 < (x0.length : Int) then (if 0 ≤ x5 then (if x5 < (x1.length : Int) then (if (rd x0 x5) = (rd x1 x5) then (tilefarmref4_Same.l0 k x0 x1 (wrap64 (x5 + 1))) else (some false)) else (none)) else (none)) else (some true)
def tilefarmref4_Same.f (k : Nat) (l0 : List Int) (l1 : List Int) : Option (Bool) := if (l0.length : Int) = (l1.length : Int) then (tilefarmref4_Same.l0 k l0 l1 0) else (some false)
theorem tilefarmref4_Same.mono_l : ∀ k, (∀ y0 y1 y2, LeO (tilefarmref4_Same.l0 k y0 y1 y2) (tilefarmref4_Same.l0 (k + 1) y0 y1 y2))
  | 0 => fun _ _ _ r h => by simp [tilefarmref4_Same.l0] at h
  | k + 1 => by
    have ih0 := tilefarmref4_Same.mono_l k
    · intro y0 y1 y2
      unfold tilefarmref4_Same.l0
      repeat' first
      | (with_reducible exact ih0 _ _ _)
      | (with_reducible exact LeO.refl _)
      | (with_reducible exact LeO.none _)
      | (with_reducible refine LeO.ite ?_ ?_)
      | (with_reducible refine LeO.bind ?_ (fun _ => ?_))
      | exact ih0 _ _ _
      | exact LeO.none _
      | refine LeO.ite ?_ ?_
      | refine LeO.bind ?_ (fun _ => ?_)
theorem tilefarmref4_Same.mono : ∀ a0 a1 k, LeO (tilefarmref4_Same.f k a0 a1) (tilefarmref4_Same.f (k + 1) a0 a1) := by
  intro a0 a1 k
  have ih0 := tilefarmref4_Same.mono_l k
  unfold tilefarmref4_Same.f
  repeat' first
      | (with_reducible exact ih0 _ _ _)
      | (with_reducible exact LeO.refl _)
      | (with_reducible exact LeO.none _)
      | (with_reducible refine LeO.ite ?_ ?_)
      | (with_reducible refine LeO.bind ?_ (fun _ => ?_))
      | exact ih0 _ _ _
      | exact LeO.none _
      | refine LeO.ite ?_ ?_
      | refine LeO.bind ?_ (fun _ => ?_)
set_option maxHeartbeats 8000000 in
set_option maxRecDepth 100000 in
theorem tilefarmref4_Same.calls (k : Nat) (A0 : Option Addr) (c0 : Nat) (l0 : List Int) (A1 : Option Addr) (c1 : Nat) (l1 : List Int) (r : Bool) (w : World) (hr0 : Kd.C (Kd.int .i64) w A0 l0.length l0) (hc0 : l0.length ≤ c0) (hr1 : Kd.C (Kd.int .i64) w A1 l1.length l1) (hc1 : l1.length ≤ c1) (h : tilefarmref4_Same.f k l0 l1 = some r) :
    Calls Try.prog 32 #[.slice A0 l0.length c0, .slice A1 l1.length c1] w fun e w' => e = .returned (.bool r) ∧ Drawn0 w w' := by
  have HR0 := Aside0.mk hr0
  have HC0 := Aside0.mk hc0
  clear hr0 hc0
  have HR1 := Aside0.mk hr1
  have HC1 := Aside0.mk hc1
  clear hr1 hc1
  have H : (if (l0.length : Int) = (l1.length : Int) then (tilefarmref4_Same.l0 k l0 l1 0) else (some false)) = some r := h
  clear h
  by_cases c3 : (l0.length : Int) = (l1.length : Int)
  · rw [if_pos c3] at H
    have c3b0 : ((l0.length : Int) == (l1.length : Int)) = true := beq_iff_eq.mpr c3
    have c3b1 : ((l0.length : Int) != (l1.length : Int)) = false := bne_eq_false_iff_eq.mpr c3
    have c3b2 : (l0.length == l1.length) = true := by first | simpa using c3 | (simp at c3 ⊢; omega)
    clear c3
    have H' := Aside0.mk H
    clear H
    go_enter Try.func32, Try.ntmps32
    go_wp2
    repeat (go_quiet (fail); try go_wp2)
    go_loopg [5] k (fun kq v5 w' => ∃ (x5_1 : Int), v5 = .int .i64 x5_1 ∧ Aside0 (tilefarmref4_Same.l0 kq l0 l1 x5_1 = some r) ∧ Aside0 (kq ≤ k) ∧ Drawn0 w w')
    case atStart => exact ⟨(0), (by first | rfl | (simp; done) | (simp [*]; done)), H', ⟨Nat.le_refl _⟩, by repeat (first | exact Drawn0.refl _ | apply Drawn0.step)⟩
    case round =>
      clear H'
      try clear c1
      try clear p2
      try clear c3
      try clear c3b0
      try clear c3b1
      try clear c3b2
      obtain ⟨x5_1, rfl, HA, HK1, ⟨m1, rfl⟩⟩ := hrel
      cases gk with
      | zero => exact absurd HA.out (by simp [tilefarmref4_Same.l0])
      | succ k1 =>
        have H := HA.out
        clear HA
        simp only [tilefarmref4_Same.l0] at H
        by_cases c4 : x5_1 < (l0.length : Int)
        · rw [if_pos c4] at H
          have c4b0 : decide (x5_1 < (l0.length : Int)) = true := decide_eq_true c4
          clear c4
          by_cases c5 : 0 ≤ x5_1
          · rw [if_pos c5] at H
            have c5b0 : decide (0 ≤ x5_1) = true := decide_eq_true c5
            clear c5
            by_cases c6 : x5_1 < (l1.length : Int)
            · rw [if_pos c6] at H
              have c6b0 : decide (x5_1 < (l1.length : Int)) = true := decide_eq_true c6
              clear c6
              by_cases c7 : (rd l0 x5_1) = (rd l1 x5_1)
              · rw [if_pos c7] at H
                have c7b0 : ((rd l0 x5_1) == (rd l1 x5_1)) = true := beq_iff_eq.mpr c7
                have c7b1 : ((rd l0 x5_1) != (rd l1 x5_1)) = false := bne_eq_false_iff_eq.mpr c7
                clear c7
                have H' := Aside0.mk H
                clear H
                have p120 : 0 ≤ (x5_1 : Int) := of_decide_eq_true (by first | (with_reducible assumption) | assumption)
                have q120 : x5_1 < (l0.length : Int) := of_decide_eq_true (by first | (with_reducible assumption) | assumption)
                obtain ⟨ad120, e120, hx120_0⟩ := Kd.at_int HR0.out x5_1 p120 q120
                cases e120
                replace p120 := eq_true p120
                replace q120 := eq_true q120
                have p121 : 0 ≤ (x5_1 : Int) := of_decide_eq_true (by first | (with_reducible assumption) | assumption)
                have q121 : x5_1 < (l1.length : Int) := of_decide_eq_true (by first | (with_reducible assumption) | assumption)
                obtain ⟨ad121, e121, hx121_0⟩ := Kd.at_int HR1.out x5_1 p121 q121
                cases e121
                replace p121 := eq_true p121
                replace q121 := eq_true q121
                go_wp2
                repeat (go_quiet (fail); try go_wp2)
                go_roundg k1
                case measure => have := HK1.out; omega
                case rel => exact ⟨(wrap64 (x5_1 + 1)), (by first | rfl | (simp; done) | (simp [*]; done)), H', ⟨by have := HK1.out; omega⟩, by repeat (first | exact Drawn0.refl _ | apply Drawn0.step)⟩
              · rw [if_neg c7] at H
                have c7b0 : ((rd l0 x5_1) == (rd l1 x5_1)) = false := beq_eq_false_iff_ne.mpr c7
                have c7b1 : ((rd l0 x5_1) != (rd l1 x5_1)) = true := bne_iff_ne.mpr c7
                obtain rfl := Option.some.inj H
                have p120 : 0 ≤ (x5_1 : Int) := of_decide_eq_true (by first | (with_reducible assumption) | assumption)
                have q120 : x5_1 < (l0.length : Int) := of_decide_eq_true (by first | (with_reducible assumption) | assumption)
                obtain ⟨ad120, e120, hx120_0⟩ := Kd.at_int HR0.out x5_1 p120 q120
                cases e120
                replace p120 := eq_true p120
                replace q120 := eq_true q120
                have p121 : 0 ≤ (x5_1 : Int) := of_decide_eq_true (by first | (with_reducible assumption) | assumption)
                have q121 : x5_1 < (l1.length : Int) := of_decide_eq_true (by first | (with_reducible assumption) | assumption)
                obtain ⟨ad121, e121, hx121_0⟩ := Kd.at_int HR1.out x5_1 p121 q121
                cases e121
                replace p121 := eq_true p121
                replace q121 := eq_true q121
                go_wp2
                repeat (go_quiet (fail); try go_wp2)
                go_ret
                exact ⟨by first | rfl | (simp; done) | (simp [*]; done), by repeat (first | exact Drawn0.refl _ | apply Drawn0.step)⟩
            · rw [if_neg c6] at H
              exact absurd H (by simp)
          · rw [if_neg c5] at H
            exact absurd H (by simp)
        · rw [if_neg c4] at H
          have c4b0 : decide (x5_1 < (l0.length : Int)) = false := decide_eq_false c4
          clear c4
          obtain rfl := Option.some.inj H
          go_wp2
          repeat (go_quiet (fail); try go_wp2)
          go_ret
          exact ⟨by first | rfl | (simp; done) | (simp [*]; done), by repeat (first | exact Drawn0.refl _ | apply Drawn0.step)⟩
  · rw [if_neg c3] at H
    have c3b0 : ((l0.length : Int) == (l1.length : Int)) = false := beq_eq_false_iff_ne.mpr c3
    have c3b1 : ((l0.length : Int) != (l1.length : Int)) = true := bne_iff_ne.mpr c3
    have c3b2 : (l0.length == l1.length) = false := by first | simpa using c3 | (simp at c3 ⊢; omega)
    obtain rfl := Option.some.inj H
    go_enter Try.func32, Try.ntmps32
    go_wp2
    repeat (go_quiet (fail); try go_wp2)
    go_ret
    exact ⟨by first | rfl | (simp; done) | (simp [*]; done), by repeat (first | exact Drawn0.refl _ | apply Drawn0.step)⟩

/-! ### tilefarmref4_Equal: function 33 -/
def tilefarmref4_Equal.f (k : Nat) (a0_0 : Int) (a0_1 : Int) (a0_2 : Int) (l0_3 : List Int) (a1_0 : Int) (a1_1 : Int) (a1_2 : Int) (l1_3 : List Int) : Option (Bool) := if a0_0 = a1_0 then (if a0_1 = a1_1 then (if a0_2 = a1_2 then ((tilefarmref4_Same.f k l0_3 l1_3).bind fun t124 => (some t124)) else (some false)) else (some false)) else (some false)
theorem tilefarmref4_Equal.mono : ∀ a0 a1 a2 a3 a4 a5 a6 a7 k, LeO (tilefarmref4_Equal.f k a0 a1 a2 a3 a4 a5 a6 a7) (tilefarmref4_Equal.f (k + 1) a0 a1 a2 a3 a4 a5 a6 a7) := by
  intro a0 a1 a2 a3 a4 a5 a6 a7 k
  unfold tilefarmref4_Equal.f
  repeat' first
      | (with_reducible exact tilefarmref4_Same.mono _ _ _)
      | (with_reducible exact LeO.refl _)
      | (with_reducible exact LeO.none _)
      | (with_reducible refine LeO.ite ?_ ?_)
      | (with_reducible refine LeO.bind ?_ (fun _ => ?_))
      | exact tilefarmref4_Same.mono _ _ _
      | exact LeO.none _
      | refine LeO.ite ?_ ?_
      | refine LeO.bind ?_ (fun _ => ?_)
set_option maxHeartbeats 8000000 in
set_option maxRecDepth 100000 in
theorem tilefarmref4_Equal.calls (k : Nat) (a0_0 : Int) (a0_1 : Int) (a0_2 : Int) (A0_3 : Option Addr) (c0_3 : Nat) (l0_3 : List Int) (a1_0 : Int) (a1_1 : Int) (a1_2 : Int) (A1_3 : Option Addr) (c1_3 : Nat) (l1_3 : List Int) (r : Bool) (w : World) (hr0_3 : Kd.C (Kd.int .i64) w A0_3 l0_3.length l0_3) (hc0_3 : l0_3.length ≤ c0_3) (hr1_3 : Kd.C (Kd.int .i64) w A1_3 l1_3.length l1_3) (hc1_3 : l1_3.length ≤ c1_3) (h : tilefarmref4_Equal.f k a0_0 a0_1 a0_2 l0_3 a1_0 a1_1 a1_2 l1_3 = some r) :
    Calls Try.prog 33 #[.agg #[.int .i64 a0_0, .int .i64 a0_1, .int .i64 a0_2, .slice A0_3 l0_3.length c0_3], .agg #[.int .i64 a1_0, .int .i64 a1_1, .int .i64 a1_2, .slice A1_3 l1_3.length c1_3]] w fun e w' => e = .returned (.bool r) ∧ Below w.heap.size w w' := by
  have hu49 := Try.underlying49
  have HR0_3 := Aside0.mk hr0_3
  have HC0_3 := Aside0.mk hc0_3
  clear hr0_3 hc0_3
  have HR1_3 := Aside0.mk hr1_3
  have HC1_3 := Aside0.mk hc1_3
  clear hr1_3 hc1_3
  have HB := Aside0.mk (Below.refl w.heap.size w)
  have H : (if a0_0 = a1_0 then (if a0_1 = a1_1 then (if a0_2 = a1_2 then ((tilefarmref4_Same.f k l0_3 l1_3).bind fun t124 => (some t124)) else (some false)) else (some false)) else (some false)) = some r := h
  clear h
  by_cases c3 : a0_0 = a1_0
  · rw [if_pos c3] at H
    have c3b0 : (a0_0 == a1_0) = true := beq_iff_eq.mpr c3
    have c3b1 : (a0_0 != a1_0) = false := bne_eq_false_iff_eq.mpr c3
    clear c3
    by_cases c4 : a0_1 = a1_1
    · rw [if_pos c4] at H
      have c4b0 : (a0_1 == a1_1) = true := beq_iff_eq.mpr c4
      have c4b1 : (a0_1 != a1_1) = false := bne_eq_false_iff_eq.mpr c4
      clear c4
      by_cases c5 : a0_2 = a1_2
      · rw [if_pos c5] at H
        have c5b0 : (a0_2 == a1_2) = true := beq_iff_eq.mpr c5
        have c5b1 : (a0_2 != a1_2) = false := bne_eq_false_iff_eq.mpr c5
        clear c5
        replace H := Option.bind_eq_some_iff.mp H
        obtain ⟨t124, A60, H⟩ := H
        replace H : (some t124) = some r := H
        have A6 := Aside0.mk A60
        clear A60
        obtain rfl := Option.some.inj H
        go_enter Try.func33, Try.ntmps33
        go_wp2_with (first | ((with_reducible refine gate_dst (N := 2) rfl ?_); refine box_event ?hg (N := 2) ?hd (cs := #[.int .i64 a0_0, .int .i64 a0_1, .int .i64 a0_2, .slice A0_3 l0_3.length c0_3]) (t := 49) ?hr ?_; (case hd => rfl); (case hg => rfl); (case hr => first | (go_simp; done) | (go_simp; rfl)); intro gb122 hg w7 hbox hb; have n0_ := Aside0.mk (below_step (by repeat (first | (with_reducible first | exact HB.out | apply below_alloc | apply pw_below_drewN | apply below_drew1) | exact HB.out)) hb); have n1_ := Aside0.mk (hbox); have n2_ := Aside0.mk ((by rw [hg]; exact (below_size (by repeat (first | (with_reducible first | exact HB.out | apply below_alloc | apply pw_below_drewN | apply below_drew1) | exact HB.out))) : w.heap.size ≤ gb122)); have n3_ := Aside0.mk ((by rw [hg]; exact (below_size (by repeat (first | (with_reducible first | exact HB.out | apply below_alloc | apply pw_below_drewN | apply below_drew1) | exact HB.out))) : w.heap.size ≤ gb122)); clear HB; have HB := n0_; have BK122 := n1_; have GW122 := n2_; have GE122 := n3_; clear n0_ n1_ n2_ n3_; clear hb hbox hg) | ((with_reducible refine gate_dst (N := 3) rfl ?_); refine box_event ?hg (N := 3) ?hd (cs := #[.int .i64 a1_0, .int .i64 a1_1, .int .i64 a1_2, .slice A1_3 l1_3.length c1_3]) (t := 49) ?hr ?_; (case hd => rfl); (case hg => rfl); (case hr => first | (go_simp; done) | (go_simp; rfl)); intro gb123 hg w8 hbox hb; have n0_ := Aside0.mk (blk_below (g := gb122) (o := .cells #[.int .i64 a0_0, .int .i64 a0_1, .int .i64 a0_2, .slice A0_3 l0_3.length c0_3] 49 (0, 0)) (by (with_reducible repeat (first | refine blk_drewN ?_ _ | refine blk_drew ?_ | refine blk_alloc ?_ _)); exact BK122.out) hb); have n1_ := Aside0.mk (below_step (by repeat (first | (with_reducible first | exact HB.out | apply below_alloc | apply pw_below_drewN | apply below_drew1 | refine below_set ?_ GE122.out) | exact HB.out)) hb); have n2_ := Aside0.mk (hbox); have n3_ := Aside0.mk ((by rw [hg]; exact (below_size (by repeat (first | (with_reducible first | exact HB.out | apply below_alloc | apply pw_below_drewN | apply below_drew1 | refine below_set ?_ GE122.out) | exact HB.out))) : w.heap.size ≤ gb123)); have n4_ := Aside0.mk ((by rw [hg]; exact (below_size (by repeat (first | (with_reducible first | exact HB.out | apply below_alloc | apply pw_below_drewN | apply below_drew1 | refine below_set ?_ GE122.out) | exact HB.out))) : w.heap.size ≤ gb123)); have n5_ := Aside0.mk ((by rw [hg]; exact Nat.ne_of_lt (blk_lt (g := gb122) (o := .cells #[.int .i64 a0_0, .int .i64 a0_1, .int .i64 a0_2, .slice A0_3 l0_3.length c0_3] 49 (0, 0)) (by (with_reducible repeat (first | refine blk_drewN ?_ _ | refine blk_drew ?_ | refine blk_alloc ?_ _)); exact BK122.out)) : gb122 ≠ gb123)); have n6_ := Aside0.mk ((by rw [hg]; exact Nat.ne_of_gt (blk_lt (g := gb122) (o := .cells #[.int .i64 a0_0, .int .i64 a0_1, .int .i64 a0_2, .slice A0_3 l0_3.length c0_3] 49 (0, 0)) (by (with_reducible repeat (first | refine blk_drewN ?_ _ | refine blk_drew ?_ | refine blk_alloc ?_ _)); exact BK122.out)) : gb123 ≠ gb122)); clear BK122; clear HB; have BK122 := n0_; have HB := n1_; have BK123 := n2_; have GW123 := n3_; have GE123 := n4_; have NB122_123 := n5_; have NB123_122 := n6_; clear n0_ n1_ n2_ n3_ n4_ n5_ n6_; clear hb hbox hg; have hnb9 := NB122_123.out; have hnc9 := NB123_122.out; have hcz10_0 : w8.cell? ⟨gb122, 0, none⟩ = some (.int .i64 a0_0) := (blk_cell BK122.out 0).trans rfl; have hcz10_1 : w8.cell? ⟨gb122, 1, none⟩ = some (.int .i64 a0_1) := (blk_cell BK122.out 1).trans rfl; have hcz10_2 : w8.cell? ⟨gb122, 2, none⟩ = some (.int .i64 a0_2) := (blk_cell BK122.out 2).trans rfl; have hcz10_3 : w8.cell? ⟨gb122, 3, none⟩ = some (.slice A0_3 l0_3.length c0_3) := (blk_cell BK122.out 3).trans rfl; have hfz10_0 := blk_frozen BK122.out 0; have hfz10_1 := blk_frozen BK122.out 1; have hfz10_2 := blk_frozen BK122.out 2; have hfz10_3 := blk_frozen BK122.out 3; have hcz11_0 : w8.cell? ⟨gb123, 0, none⟩ = some (.int .i64 a1_0) := (blk_cell BK123.out 0).trans rfl; have hcz11_1 : w8.cell? ⟨gb123, 1, none⟩ = some (.int .i64 a1_1) := (blk_cell BK123.out 1).trans rfl; have hcz11_2 : w8.cell? ⟨gb123, 2, none⟩ = some (.int .i64 a1_2) := (blk_cell BK123.out 2).trans rfl; have hcz11_3 : w8.cell? ⟨gb123, 3, none⟩ = some (.slice A1_3 l1_3.length c1_3) := (blk_cell BK123.out 3).trans rfl; have hfz11_0 := blk_frozen BK123.out 0; have hfz11_1 := blk_frozen BK123.out 1; have hfz11_2 := blk_frozen BK123.out 2; have hfz11_3 := blk_frozen BK123.out 3) | (go_at_call 32; (with_reducible refine (tilefarmref4_Same.calls k _ _ l0_3 _ _ l1_3 t124 _ ?side1 ?side2 ?side3 ?side4 A6.out).mono ?_); (case side1 => repeat (first | exact (Kd.C_below HR0_3.out HB.out) | (with_reducible refine Kd.C_alloc ?_ _) | (with_reducible refine Kd.C_drewN ?_ _) | (with_reducible refine Kd.C_drew ?_))); (case side2 => exact HC0_3.out); (case side3 => repeat (first | exact (Kd.C_below HR1_3.out HB.out) | (with_reducible refine Kd.C_alloc ?_ _) | (with_reducible refine Kd.C_drewN ?_ _) | (with_reducible refine Kd.C_drew ?_))); (case side4 => exact HC1_3.out); rintro e w' ⟨rfl, ⟨nd, rfl⟩⟩))
        go_ret
        exact ⟨by first | rfl | (simp [errW_none, errW_some] <;> rfl) | (simp [*, errW_none, errW_some] <;> rfl), by repeat (first | (with_reducible first | exact HB.out | apply below_alloc | apply pw_below_drewN | apply below_drew1 | refine below_set ?_ GE122.out | refine below_set ?_ GE123.out) | exact HB.out)⟩
      · rw [if_neg c5] at H
        have c5b0 : (a0_2 == a1_2) = false := beq_eq_false_iff_ne.mpr c5
        have c5b1 : (a0_2 != a1_2) = true := bne_iff_ne.mpr c5
        obtain rfl := Option.some.inj H
        go_enter Try.func33, Try.ntmps33
        go_wp2_with (first | ((with_reducible refine gate_dst (N := 2) rfl ?_); refine box_event ?hg (N := 2) ?hd (cs := #[.int .i64 a0_0, .int .i64 a0_1, .int .i64 a0_2, .slice A0_3 l0_3.length c0_3]) (t := 49) ?hr ?_; (case hd => rfl); (case hg => rfl); (case hr => first | (go_simp; done) | (go_simp; rfl)); intro gb122 hg w12 hbox hb; have n0_ := Aside0.mk (below_step (by repeat (first | (with_reducible first | exact HB.out | apply below_alloc | apply pw_below_drewN | apply below_drew1) | exact HB.out)) hb); have n1_ := Aside0.mk (hbox); have n2_ := Aside0.mk ((by rw [hg]; exact (below_size (by repeat (first | (with_reducible first | exact HB.out | apply below_alloc | apply pw_below_drewN | apply below_drew1) | exact HB.out))) : w.heap.size ≤ gb122)); have n3_ := Aside0.mk ((by rw [hg]; exact (below_size (by repeat (first | (with_reducible first | exact HB.out | apply below_alloc | apply pw_below_drewN | apply below_drew1) | exact HB.out))) : w.heap.size ≤ gb122)); clear HB; have HB := n0_; have BK122 := n1_; have GW122 := n2_; have GE122 := n3_; clear n0_ n1_ n2_ n3_; clear hb hbox hg) | ((with_reducible refine gate_dst (N := 3) rfl ?_); refine box_event ?hg (N := 3) ?hd (cs := #[.int .i64 a1_0, .int .i64 a1_1, .int .i64 a1_2, .slice A1_3 l1_3.length c1_3]) (t := 49) ?hr ?_; (case hd => rfl); (case hg => rfl); (case hr => first | (go_simp; done) | (go_simp; rfl)); intro gb123 hg w13 hbox hb; have n0_ := Aside0.mk (blk_below (g := gb122) (o := .cells #[.int .i64 a0_0, .int .i64 a0_1, .int .i64 a0_2, .slice A0_3 l0_3.length c0_3] 49 (0, 0)) (by (with_reducible repeat (first | refine blk_drewN ?_ _ | refine blk_drew ?_ | refine blk_alloc ?_ _)); exact BK122.out) hb); have n1_ := Aside0.mk (below_step (by repeat (first | (with_reducible first | exact HB.out | apply below_alloc | apply pw_below_drewN | apply below_drew1 | refine below_set ?_ GE122.out) | exact HB.out)) hb); have n2_ := Aside0.mk (hbox); have n3_ := Aside0.mk ((by rw [hg]; exact (below_size (by repeat (first | (with_reducible first | exact HB.out | apply below_alloc | apply pw_below_drewN | apply below_drew1 | refine below_set ?_ GE122.out) | exact HB.out))) : w.heap.size ≤ gb123)); have n4_ := Aside0.mk ((by rw [hg]; exact (below_size (by repeat (first | (with_reducible first | exact HB.out | apply below_alloc | apply pw_below_drewN | apply below_drew1 | refine below_set ?_ GE122.out) | exact HB.out))) : w.heap.size ≤ gb123)); have n5_ := Aside0.mk ((by rw [hg]; exact Nat.ne_of_lt (blk_lt (g := gb122) (o := .cells #[.int .i64 a0_0, .int .i64 a0_1, .int .i64 a0_2, .slice A0_3 l0_3.length c0_3] 49 (0, 0)) (by (with_reducible repeat (first | refine blk_drewN ?_ _ | refine blk_drew ?_ | refine blk_alloc ?_ _)); exact BK122.out)) : gb122 ≠ gb123)); have n6_ := Aside0.mk ((by rw [hg]; exact Nat.ne_of_gt (blk_lt (g := gb122) (o := .cells #[.int .i64 a0_0, .int .i64 a0_1, .int .i64 a0_2, .slice A0_3 l0_3.length c0_3] 49 (0, 0)) (by (with_reducible repeat (first | refine blk_drewN ?_ _ | refine blk_drew ?_ | refine blk_alloc ?_ _)); exact BK122.out)) : gb123 ≠ gb122)); clear BK122; clear HB; have BK122 := n0_; have HB := n1_; have BK123 := n2_; have GW123 := n3_; have GE123 := n4_; have NB122_123 := n5_; have NB123_122 := n6_; clear n0_ n1_ n2_ n3_ n4_ n5_ n6_; clear hb hbox hg; have hnb14 := NB122_123.out; have hnc14 := NB123_122.out; have hcz15_0 : w13.cell? ⟨gb122, 0, none⟩ = some (.int .i64 a0_0) := (blk_cell BK122.out 0).trans rfl; have hcz15_1 : w13.cell? ⟨gb122, 1, none⟩ = some (.int .i64 a0_1) := (blk_cell BK122.out 1).trans rfl; have hcz15_2 : w13.cell? ⟨gb122, 2, none⟩ = some (.int .i64 a0_2) := (blk_cell BK122.out 2).trans rfl; have hcz15_3 : w13.cell? ⟨gb122, 3, none⟩ = some (.slice A0_3 l0_3.length c0_3) := (blk_cell BK122.out 3).trans rfl; have hfz15_0 := blk_frozen BK122.out 0; have hfz15_1 := blk_frozen BK122.out 1; have hfz15_2 := blk_frozen BK122.out 2; have hfz15_3 := blk_frozen BK122.out 3; have hcz16_0 : w13.cell? ⟨gb123, 0, none⟩ = some (.int .i64 a1_0) := (blk_cell BK123.out 0).trans rfl; have hcz16_1 : w13.cell? ⟨gb123, 1, none⟩ = some (.int .i64 a1_1) := (blk_cell BK123.out 1).trans rfl; have hcz16_2 : w13.cell? ⟨gb123, 2, none⟩ = some (.int .i64 a1_2) := (blk_cell BK123.out 2).trans rfl; have hcz16_3 : w13.cell? ⟨gb123, 3, none⟩ = some (.slice A1_3 l1_3.length c1_3) := (blk_cell BK123.out 3).trans rfl; have hfz16_0 := blk_frozen BK123.out 0; have hfz16_1 := blk_frozen BK123.out 1; have hfz16_2 := blk_frozen BK123.out 2; have hfz16_3 := blk_frozen BK123.out 3))
        go_ret
        exact ⟨by first | rfl | (simp [errW_none, errW_some] <;> rfl) | (simp [*, errW_none, errW_some] <;> rfl), by repeat (first | (with_reducible first | exact HB.out | apply below_alloc | apply pw_below_drewN | apply below_drew1 | refine below_set ?_ GE122.out | refine below_set ?_ GE123.out) | exact HB.out)⟩
    · rw [if_neg c4] at H
      have c4b0 : (a0_1 == a1_1) = false := beq_eq_false_iff_ne.mpr c4
      have c4b1 : (a0_1 != a1_1) = true := bne_iff_ne.mpr c4
      obtain rfl := Option.some.inj H
      go_enter Try.func33, Try.ntmps33
      go_wp2_with (first | ((with_reducible refine gate_dst (N := 2) rfl ?_); refine box_event ?hg (N := 2) ?hd (cs := #[.int .i64 a0_0, .int .i64 a0_1, .int .i64 a0_2, .slice A0_3 l0_3.length c0_3]) (t := 49) ?hr ?_; (case hd => rfl); (case hg => rfl); (case hr => first | (go_simp; done) | (go_simp; rfl)); intro gb122 hg w17 hbox hb; have n0_ := Aside0.mk (below_step (by repeat (first | (with_reducible first | exact HB.out | apply below_alloc | apply pw_below_drewN | apply below_drew1) | exact HB.out)) hb); have n1_ := Aside0.mk (hbox); have n2_ := Aside0.mk ((by rw [hg]; exact (below_size (by repeat (first | (with_reducible first | exact HB.out | apply below_alloc | apply pw_below_drewN | apply below_drew1) | exact HB.out))) : w.heap.size ≤ gb122)); have n3_ := Aside0.mk ((by rw [hg]; exact (below_size (by repeat (first | (with_reducible first | exact HB.out | apply below_alloc | apply pw_below_drewN | apply below_drew1) | exact HB.out))) : w.heap.size ≤ gb122)); clear HB; have HB := n0_; have BK122 := n1_; have GW122 := n2_; have GE122 := n3_; clear n0_ n1_ n2_ n3_; clear hb hbox hg) | ((with_reducible refine gate_dst (N := 3) rfl ?_); refine box_event ?hg (N := 3) ?hd (cs := #[.int .i64 a1_0, .int .i64 a1_1, .int .i64 a1_2, .slice A1_3 l1_3.length c1_3]) (t := 49) ?hr ?_; (case hd => rfl); (case hg => rfl); (case hr => first | (go_simp; done) | (go_simp; rfl)); intro gb123 hg w18 hbox hb; have n0_ := Aside0.mk (blk_below (g := gb122) (o := .cells #[.int .i64 a0_0, .int .i64 a0_1, .int .i64 a0_2, .slice A0_3 l0_3.length c0_3] 49 (0, 0)) (by (with_reducible repeat (first | refine blk_drewN ?_ _ | refine blk_drew ?_ | refine blk_alloc ?_ _)); exact BK122.out) hb); have n1_ := Aside0.mk (below_step (by repeat (first | (with_reducible first | exact HB.out | apply below_alloc | apply pw_below_drewN | apply below_drew1 | refine below_set ?_ GE122.out) | exact HB.out)) hb); have n2_ := Aside0.mk (hbox); have n3_ := Aside0.mk ((by rw [hg]; exact (below_size (by repeat (first | (with_reducible first | exact HB.out | apply below_alloc | apply pw_below_drewN | apply below_drew1 | refine below_set ?_ GE122.out) | exact HB.out))) : w.heap.size ≤ gb123)); have n4_ := Aside0.mk ((by rw [hg]; exact (below_size (by repeat (first | (with_reducible first | exact HB.out | apply below_alloc | apply pw_below_drewN | apply below_drew1 | refine below_set ?_ GE122.out) | exact HB.out))) : w.heap.size ≤ gb123)); have n5_ := Aside0.mk ((by rw [hg]; exact Nat.ne_of_lt (blk_lt (g := gb122) (o := .cells #[.int .i64 a0_0, .int .i64 a0_1, .int .i64 a0_2, .slice A0_3 l0_3.length c0_3] 49 (0, 0)) (by (with_reducible repeat (first | refine blk_drewN ?_ _ | refine blk_drew ?_ | refine blk_alloc ?_ _)); exact BK122.out)) : gb122 ≠ gb123)); have n6_ := Aside0.mk ((by rw [hg]; exact Nat.ne_of_gt (blk_lt (g := gb122) (o := .cells #[.int .i64 a0_0, .int .i64 a0_1, .int .i64 a0_2, .slice A0_3 l0_3.length c0_3] 49 (0, 0)) (by (with_reducible repeat (first | refine blk_drewN ?_ _ | refine blk_drew ?_ | refine blk_alloc ?_ _)); exact BK122.out)) : gb123 ≠ gb122)); clear BK122; clear HB; have BK122 := n0_; have HB := n1_; have BK123 := n2_; have GW123 := n3_; have GE123 := n4_; have NB122_123 := n5_; have NB123_122 := n6_; clear n0_ n1_ n2_ n3_ n4_ n5_ n6_; clear hb hbox hg; have hnb19 := NB122_123.out; have hnc19 := NB123_122.out; have hcz20_0 : w18.cell? ⟨gb122, 0, none⟩ = some (.int .i64 a0_0) := (blk_cell BK122.out 0).trans rfl; have hcz20_1 : w18.cell? ⟨gb122, 1, none⟩ = some (.int .i64 a0_1) := (blk_cell BK122.out 1).trans rfl; have hcz20_2 : w18.cell? ⟨gb122, 2, none⟩ = some (.int .i64 a0_2) := (blk_cell BK122.out 2).trans rfl; have hcz20_3 : w18.cell? ⟨gb122, 3, none⟩ = some (.slice A0_3 l0_3.length c0_3) := (blk_cell BK122.out 3).trans rfl; have hfz20_0 := blk_frozen BK122.out 0; have hfz20_1 := blk_frozen BK122.out 1; have hfz20_2 := blk_frozen BK122.out 2; have hfz20_3 := blk_frozen BK122.out 3; have hcz21_0 : w18.cell? ⟨gb123, 0, none⟩ = some (.int .i64 a1_0) := (blk_cell BK123.out 0).trans rfl; have hcz21_1 : w18.cell? ⟨gb123, 1, none⟩ = some (.int .i64 a1_1) := (blk_cell BK123.out 1).trans rfl; have hcz21_2 : w18.cell? ⟨gb123, 2, none⟩ = some (.int .i64 a1_2) := (blk_cell BK123.out 2).trans rfl; have hcz21_3 : w18.cell? ⟨gb123, 3, none⟩ = some (.slice A1_3 l1_3.length c1_3) := (blk_cell BK123.out 3).trans rfl; have hfz21_0 := blk_frozen BK123.out 0; have hfz21_1 := blk_frozen BK123.out 1; have hfz21_2 := blk_frozen BK123.out 2; have hfz21_3 := blk_frozen BK123.out 3))
      go_ret
      exact ⟨by first | rfl | (simp [errW_none, errW_some] <;> rfl) | (simp [*, errW_none, errW_some] <;> rfl), by repeat (first | (with_reducible first | exact HB.out | apply below_alloc | apply pw_below_drewN | apply below_drew1 | refine below_set ?_ GE122.out | refine below_set ?_ GE123.out) | exact HB.out)⟩
  · rw [if_neg c3] at H
    have c3b0 : (a0_0 == a1_0) = false := beq_eq_false_iff_ne.mpr c3
    have c3b1 : (a0_0 != a1_0) = true := bne_iff_ne.mpr c3
    obtain rfl := Option.some.inj H
    go_enter Try.func33, Try.ntmps33
    go_wp2_with (first | ((with_reducible refine gate_dst (N := 2) rfl ?_); refine box_event ?hg (N := 2) ?hd (cs := #[.int .i64 a0_0, .int .i64 a0_1, .int .i64 a0_2, .slice A0_3 l0_3.length c0_3]) (t := 49) ?hr ?_; (case hd => rfl); (case hg => rfl); (case hr => first | (go_simp; done) | (go_simp; rfl)); intro gb122 hg w22 hbox hb; have n0_ := Aside0.mk (below_step (by repeat (first | (with_reducible first | exact HB.out | apply below_alloc | apply pw_below_drewN | apply below_drew1) | exact HB.out)) hb); have n1_ := Aside0.mk (hbox); have n2_ := Aside0.mk ((by rw [hg]; exact (below_size (by repeat (first | (with_reducible first | exact HB.out | apply below_alloc | apply pw_below_drewN | apply below_drew1) | exact HB.out))) : w.heap.size ≤ gb122)); have n3_ := Aside0.mk ((by rw [hg]; exact (below_size (by repeat (first | (with_reducible first | exact HB.out | apply below_alloc | apply pw_below_drewN | apply below_drew1) | exact HB.out))) : w.heap.size ≤ gb122)); clear HB; have HB := n0_; have BK122 := n1_; have GW122 := n2_; have GE122 := n3_; clear n0_ n1_ n2_ n3_; clear hb hbox hg) | ((with_reducible refine gate_dst (N := 3) rfl ?_); refine box_event ?hg (N := 3) ?hd (cs := #[.int .i64 a1_0, .int .i64 a1_1, .int .i64 a1_2, .slice A1_3 l1_3.length c1_3]) (t := 49) ?hr ?_; (case hd => rfl); (case hg => rfl); (case hr => first | (go_simp; done) | (go_simp; rfl)); intro gb123 hg w23 hbox hb; have n0_ := Aside0.mk (blk_below (g := gb122) (o := .cells #[.int .i64 a0_0, .int .i64 a0_1, .int .i64 a0_2, .slice A0_3 l0_3.length c0_3] 49 (0, 0)) (by (with_reducible repeat (first | refine blk_drewN ?_ _ | refine blk_drew ?_ | refine blk_alloc ?_ _)); exact BK122.out) hb); have n1_ := Aside0.mk (below_step (by repeat (first | (with_reducible first | exact HB.out | apply below_alloc | apply pw_below_drewN | apply below_drew1 | refine below_set ?_ GE122.out) | exact HB.out)) hb); have n2_ := Aside0.mk (hbox); have n3_ := Aside0.mk ((by rw [hg]; exact (below_size (by repeat (first | (with_reducible first | exact HB.out | apply below_alloc | apply pw_below_drewN | apply below_drew1 | refine below_set ?_ GE122.out) | exact HB.out))) : w.heap.size ≤ gb123)); have n4_ := Aside0.mk ((by rw [hg]; exact (below_size (by repeat (first | (with_reducible first | exact HB.out | apply below_alloc | apply pw_below_drewN | apply below_drew1 | refine below_set ?_ GE122.out) | exact HB.out))) : w.heap.size ≤ gb123)); have n5_ := Aside0.mk ((by rw [hg]; exact Nat.ne_of_lt (blk_lt (g := gb122) (o := .cells #[.int .i64 a0_0, .int .i64 a0_1, .int .i64 a0_2, .slice A0_3 l0_3.length c0_3] 49 (0, 0)) (by (with_reducible repeat (first | refine blk_drewN ?_ _ | refine blk_drew ?_ | refine blk_alloc ?_ _)); exact BK122.out)) : gb122 ≠ gb123)); have n6_ := Aside0.mk ((by rw [hg]; exact Nat.ne_of_gt (blk_lt (g := gb122) (o := .cells #[.int .i64 a0_0, .int .i64 a0_1, .int .i64 a0_2, .slice A0_3 l0_3.length c0_3] 49 (0, 0)) (by (with_reducible repeat (first | refine blk_drewN ?_ _ | refine blk_drew ?_ | refine blk_alloc ?_ _)); exact BK122.out)) : gb123 ≠ gb122)); clear BK122; clear HB; have BK122 := n0_; have HB := n1_; have BK123 := n2_; have GW123 := n3_; have GE123 := n4_; have NB122_123 := n5_; have NB123_122 := n6_; clear n0_ n1_ n2_ n3_ n4_ n5_ n6_; clear hb hbox hg; have hnb24 := NB122_123.out; have hnc24 := NB123_122.out; have hcz25_0 : w23.cell? ⟨gb122, 0, none⟩ = some (.int .i64 a0_0) := (blk_cell BK122.out 0).trans rfl; have hcz25_1 : w23.cell? ⟨gb122, 1, none⟩ = some (.int .i64 a0_1) := (blk_cell BK122.out 1).trans rfl; have hcz25_2 : w23.cell? ⟨gb122, 2, none⟩ = some (.int .i64 a0_2) := (blk_cell BK122.out 2).trans rfl; have hcz25_3 : w23.cell? ⟨gb122, 3, none⟩ = some (.slice A0_3 l0_3.length c0_3) := (blk_cell BK122.out 3).trans rfl; have hfz25_0 := blk_frozen BK122.out 0; have hfz25_1 := blk_frozen BK122.out 1; have hfz25_2 := blk_frozen BK122.out 2; have hfz25_3 := blk_frozen BK122.out 3; have hcz26_0 : w23.cell? ⟨gb123, 0, none⟩ = some (.int .i64 a1_0) := (blk_cell BK123.out 0).trans rfl; have hcz26_1 : w23.cell? ⟨gb123, 1, none⟩ = some (.int .i64 a1_1) := (blk_cell BK123.out 1).trans rfl; have hcz26_2 : w23.cell? ⟨gb123, 2, none⟩ = some (.int .i64 a1_2) := (blk_cell BK123.out 2).trans rfl; have hcz26_3 : w23.cell? ⟨gb123, 3, none⟩ = some (.slice A1_3 l1_3.length c1_3) := (blk_cell BK123.out 3).trans rfl; have hfz26_0 := blk_frozen BK123.out 0; have hfz26_1 := blk_frozen BK123.out 1; have hfz26_2 := blk_frozen BK123.out 2; have hfz26_3 := blk_frozen BK123.out 3))
    go_ret
    exact ⟨by first | rfl | (simp [errW_none, errW_some] <;> rfl) | (simp [*, errW_none, errW_some] <;> rfl), by repeat (first | (with_reducible first | exact HB.out | apply below_alloc | apply pw_below_drewN | apply below_drew1 | refine below_set ?_ GE122.out | refine below_set ?_ GE123.out) | exact HB.out)⟩

/-! ### tilefarmref8_Same: function 48 -/
mutual
def tilefarmref8_Same.l0 : Nat → List (S96) → List (S96) → Int → Option (Bool)
  | 0, _, _, _ => none
  | k + 1, x0, x1, x5 => if x5 < (x0.length : Int) then (if 0 ≤ x5 then (if x5 < (x1.length : Int) then (if ((rd_T96 x0 x5).f0) = ((rd_T96 x1 x5).f0) then (tilefarmref8_Same.j1 k x0 x1 x5 ((((rd_T96 x0 x5).f1).length : Int) != (((rd_T96 x1 x5).f1).length : Int))) else (tilefarmref8_Same.j1 k x0 x1 x5 true)) else (none)) else (none)) else (some true)
def tilefarmref8_Same.j1 : Nat → List (S96) → List (S96) → Int → Bool → Option (Bool)
  | 0, _, _, _, _ => none
  | k + 1, x0, x1, x5, x43 => if x43 = true then (some false) else (tilefarmref8_Same.l1 k x0 x1 x5 0)
def tilefarmref8_Same.l1 : Nat → List (S96) → List (S96) → Int → Int → Option (Bool)
  | 0, _, _, _, _ => none
  | k + 1, x0, x1, x5, x6 => if 0 ≤ x5 then (if x5 < (x0.length : Int) then (if x6 < (((rd_T96 x0 x5).f1).length : Int) then (if 0 ≤ x6 then (if x5 < (x1.length : Int) then (if x6 < (((rd_T96 x1 x5).f1).length : Int) then (if (rd ((rd_T96 x0 x5).f1) x6) = (rd ((rd_T96 x1 x5).f1) x6) then (tilefarmref8_Same.l1 k x0 x1 x5 (wrap64 (x6 + 1))) else (some false)) else (none)) else (none)) else (none)) else (tilefarmref8_Same.l0 k x0 x1 (wrap64 (x5 + 1)))) else (none)) else (none)
end
def tilefarmref8_Same.f (k : Nat) (l0 : List (S96)) (l1 : List (S96)) : Option (Bool) := if (l0.length : Int) = (l1.length : Int) then (tilefarmref8_Same.l0 k l0 l1 0) else (some false)
theorem tilefarmref8_Same.mono_l : ∀ k, (∀ y0 y1 y2, LeO (tilefarmref8_Same.l0 k y0 y1 y2) (tilefarmref8_Same.l0 (k + 1) y0 y1 y2)) ∧ (∀ y0 y1 y2 y3, LeO (tilefarmref8_Same.j1 k y0 y1 y2 y3) (tilefarmref8_Same.j1 (k + 1) y0 y1 y2 y3)) ∧ (∀ y0 y1 y2 y3, LeO (tilefarmref8_Same.l1 k y0 y1 y2 y3) (tilefarmref8_Same.l1 (k + 1) y0 y1 y2 y3))
  | 0 => ⟨fun _ _ _ r h => by simp [tilefarmref8_Same.l0] at h, fun _ _ _ _ r h => by simp [tilefarmref8_Same.j1] at h, fun _ _ _ _ r h => by simp [tilefarmref8_Same.l1] at h⟩
  | k + 1 => by
    obtain ⟨ih0, ih1, ih2⟩ := tilefarmref8_Same.mono_l k
    refine ⟨?_, ?_, ?_⟩
    · intro y0 y1 y2
      unfold tilefarmref8_Same.l0
      repeat' first
      | (with_reducible exact ih0 _ _ _)
      | (with_reducible exact ih1 _ _ _ _)
      | (with_reducible exact ih2 _ _ _ _)
      | (with_reducible exact LeO.refl _)
      | (with_reducible exact LeO.none _)
      | (with_reducible refine LeO.ite ?_ ?_)
      | (with_reducible refine LeO.bind ?_ (fun _ => ?_))
      | exact ih0 _ _ _
      | exact ih1 _ _ _ _
      | exact ih2 _ _ _ _
      | exact LeO.none _
      | refine LeO.ite ?_ ?_
      | refine LeO.bind ?_ (fun _ => ?_)
    · intro y0 y1 y2 y3
      unfold tilefarmref8_Same.j1
      repeat' first
      | (with_reducible exact ih0 _ _ _)
      | (with_reducible exact ih1 _ _ _ _)
      | (with_reducible exact ih2 _ _ _ _)
      | (with_reducible exact LeO.refl _)
      | (with_reducible exact LeO.none _)
      | (with_reducible refine LeO.ite ?_ ?_)
      | (with_reducible refine LeO.bind ?_ (fun _ => ?_))
      | exact ih0 _ _ _
      | exact ih1 _ _ _ _
      | exact ih2 _ _ _ _
      | exact LeO.none _
      | refine LeO.ite ?_ ?_
      | refine LeO.bind ?_ (fun _ => ?_)
    · intro y0 y1 y2 y3
      unfold tilefarmref8_Same.l1
      repeat' first
      | (with_reducible exact ih0 _ _ _)
      | (with_reducible exact ih1 _ _ _ _)
      | (with_reducible exact ih2 _ _ _ _)
      | (with_reducible exact LeO.refl _)
      | (with_reducible exact LeO.none _)
      | (with_reducible refine LeO.ite ?_ ?_)
      | (with_reducible refine LeO.bind ?_ (fun _ => ?_))
      | exact ih0 _ _ _
      | exact ih1 _ _ _ _
      | exact ih2 _ _ _ _
      | exact LeO.none _
      | refine LeO.ite ?_ ?_
      | refine LeO.bind ?_ (fun _ => ?_)
theorem tilefarmref8_Same.mono : ∀ a0 a1 k, LeO (tilefarmref8_Same.f k a0 a1) (tilefarmref8_Same.f (k + 1) a0 a1) := by
  intro a0 a1 k
  obtain ⟨ih0, ih1, ih2⟩ := tilefarmref8_Same.mono_l k
  unfold tilefarmref8_Same.f
  repeat' first
      | (with_reducible exact ih0 _ _ _)
      | (with_reducible exact ih1 _ _ _ _)
      | (with_reducible exact ih2 _ _ _ _)
      | (with_reducible exact LeO.refl _)
      | (with_reducible exact LeO.none _)
      | (with_reducible refine LeO.ite ?_ ?_)
      | (with_reducible refine LeO.bind ?_ (fun _ => ?_))
      | exact ih0 _ _ _
      | exact ih1 _ _ _ _
      | exact ih2 _ _ _ _
      | exact LeO.none _
      | refine LeO.ite ?_ ?_
      | refine LeO.bind ?_ (fun _ => ?_)
set_option maxHeartbeats 8000000 in
set_option maxRecDepth 100000 in
theorem tilefarmref8_Same.calls (k : Nat) (A0 : Option Addr) (c0 : Nat) (l0 : List (S96)) (A1 : Option Addr) (c1 : Nat) (l1 : List (S96)) (r : Bool) (w : World) (hr0 : Kd.C k96 w A0 l0.length l0) (hc0 : l0.length ≤ c0) (hr1 : Kd.C k96 w A1 l1.length l1) (hc1 : l1.length ≤ c1) (h : tilefarmref8_Same.f k l0 l1 = some r) :
    Calls Try.prog 48 #[.slice A0 l0.length c0, .slice A1 l1.length c1] w fun e w' => e = .returned (.bool r) ∧ Drawn0 w w' := by
  have HR0 := Aside0.mk hr0
  have HC0 := Aside0.mk hc0
  clear hr0 hc0
  have HR1 := Aside0.mk hr1
  have HC1 := Aside0.mk hc1
  clear hr1 hc1
  have H : (if (l0.length : Int) = (l1.length : Int) then (tilefarmref8_Same.l0 k l0 l1 0) else (some false)) = some r := h
  clear h
  by_cases c3 : (l0.length : Int) = (l1.length : Int)
  · rw [if_pos c3] at H
    have c3b0 : ((l0.length : Int) == (l1.length : Int)) = true := beq_iff_eq.mpr c3
    have c3b1 : ((l0.length : Int) != (l1.length : Int)) = false := bne_eq_false_iff_eq.mpr c3
    have c3b2 : (l0.length == l1.length) = true := by first | simpa using c3 | (simp at c3 ⊢; omega)
    clear c3
    have H' := Aside0.mk H
    clear H
    go_enter Try.func48, Try.ntmps48
    go_wp2
    repeat (go_quiet (fail); try go_wp2)
    go_loopg [5] k (fun kq v5 w' => ∃ (x5_1 : Int), v5 = .int .i64 x5_1 ∧ Aside0 (tilefarmref8_Same.l0 kq l0 l1 x5_1 = some r) ∧ Aside0 (kq ≤ k) ∧ Drawn0 w w')
    case atStart => exact ⟨(0), (by first | rfl | (simp; done) | (simp [*]; done)), H', ⟨Nat.le_refl _⟩, by repeat (first | exact Drawn0.refl _ | apply Drawn0.step)⟩
    case round =>
      clear H'
      try clear c1
      try clear p2
      try clear c3
      try clear c3b0
      try clear c3b1
      try clear c3b2
      obtain ⟨x5_1, rfl, HA, HK1, ⟨m1, rfl⟩⟩ := hrel
      cases gk with
      | zero => exact absurd HA.out (by simp [tilefarmref8_Same.l0])
      | succ k1 =>
        have H := HA.out
        clear HA
        simp only [tilefarmref8_Same.l0] at H
        by_cases c4 : x5_1 < (l0.length : Int)
        · rw [if_pos c4] at H
          have c4b0 : decide (x5_1 < (l0.length : Int)) = true := decide_eq_true c4
          clear c4
          have HC5 := Aside0.mk H
          clear H
          go_upto_region 6 with (fail)
          repeat (go_quiet (fail); go_upto_region 6 with (fail))
          go_cut [43] (fun v43 wc => ∃ (kq : Nat) (x43_4 : Bool), v43 = .bool x43_4 ∧ Aside0 (tilefarmref8_Same.j1 kq l0 l1 x5_1 x43_4 = some r) ∧ Aside0 (kq ≤ k1) ∧ Drawn0 w wc)
          case first =>
            have H := HC5.out
            clear HC5
            by_cases c6 : 0 ≤ x5_1
            · rw [if_pos c6] at H
              have c6b0 : decide (0 ≤ x5_1) = true := decide_eq_true c6
              clear c6
              (first | rw [c6b0] | (simp only [i64_w, i32_w]; rw [c6b0]) | skip)
              by_cases c7 : x5_1 < (l1.length : Int)
              · rw [if_pos c7] at H
                have c7b0 : decide (x5_1 < (l1.length : Int)) = true := decide_eq_true c7
                clear c7
                by_cases c8 : ((rd_T96 l0 x5_1).f0) = ((rd_T96 l1 x5_1).f0)
                · rw [if_pos c8] at H
                  have c8b0 : (((rd_T96 l0 x5_1).f0) == ((rd_T96 l1 x5_1).f0)) = true := beq_iff_eq.mpr c8
                  have c8b1 : (((rd_T96 l0 x5_1).f0) != ((rd_T96 l1 x5_1).f0)) = false := bne_eq_false_iff_eq.mpr c8
                  clear c8
                  have H' := Aside0.mk H
                  clear H
                  have p125 : 0 ≤ (x5_1 : Int) := of_decide_eq_true (by first | (with_reducible assumption) | assumption)
                  have q125 : x5_1 < (l0.length : Int) := of_decide_eq_true (by first | (with_reducible assumption) | assumption)
                  obtain ⟨ad125, A125_1, c125_1, e125, hx125_0, hx125_1, hl125_1, hi125_1⟩ := at_T96 HR0.out x5_1 p125 q125
                  cases e125
                  have HR125_1 := Aside0.mk hi125_1
                  have HC125_1 := Aside0.mk hl125_1
                  clear hi125_1 hl125_1
                  replace p125 := eq_true p125
                  replace q125 := eq_true q125
                  have p126 : 0 ≤ (x5_1 : Int) := of_decide_eq_true (by first | (with_reducible assumption) | assumption)
                  have q126 : x5_1 < (l1.length : Int) := of_decide_eq_true (by first | (with_reducible assumption) | assumption)
                  obtain ⟨ad126, A126_1, c126_1, e126, hx126_0, hx126_1, hl126_1, hi126_1⟩ := at_T96 HR1.out x5_1 p126 q126
                  cases e126
                  have HR126_1 := Aside0.mk hi126_1
                  have HC126_1 := Aside0.mk hl126_1
                  clear hi126_1 hl126_1
                  replace p126 := eq_true p126
                  replace q126 := eq_true q126
                  have p127 : 0 ≤ (x5_1 : Int) := of_decide_eq_true (by first | (with_reducible assumption) | assumption)
                  have q127 : x5_1 < (l0.length : Int) := of_decide_eq_true (by first | (with_reducible assumption) | assumption)
                  obtain ⟨ad127, A127_1, c127_1, e127, hx127_0, hx127_1, hl127_1, hi127_1⟩ := at_T96 HR0.out x5_1 p127 q127
                  obtain rfl : ad125 = ad127 := (by injection e127)
                  have HR127_1 := Aside0.mk hi127_1
                  have HC127_1 := Aside0.mk hl127_1
                  clear hi127_1 hl127_1
                  replace p127 := eq_true p127
                  replace q127 := eq_true q127
                  have ea_ := Option.some.inj (hx125_1.symm.trans hx127_1)
                  injection ea_ with ea_ en_ ec_
                  subst ea_
                  subst ec_
                  clear en_
                  have p128 : 0 ≤ (x5_1 : Int) := of_decide_eq_true (by first | (with_reducible assumption) | assumption)
                  have q128 : x5_1 < (l1.length : Int) := of_decide_eq_true (by first | (with_reducible assumption) | assumption)
                  obtain ⟨ad128, A128_1, c128_1, e128, hx128_0, hx128_1, hl128_1, hi128_1⟩ := at_T96 HR1.out x5_1 p128 q128
                  obtain rfl : ad126 = ad128 := (by injection e128)
                  have HR128_1 := Aside0.mk hi128_1
                  have HC128_1 := Aside0.mk hl128_1
                  clear hi128_1 hl128_1
                  replace p128 := eq_true p128
                  replace q128 := eq_true q128
                  have ea_ := Option.some.inj (hx126_1.symm.trans hx128_1)
                  injection ea_ with ea_ en_ ec_
                  subst ea_
                  subst ec_
                  clear en_
                  go_wp2
                  repeat (go_quiet (fail); try go_wp2)
                  go_meet
                  case rel => exact ⟨_, (((((rd_T96 l0 x5_1).f1).length : Int) != (((rd_T96 l1 x5_1).f1).length : Int))), (by first | rfl | (simp; done) | (simp [*]; done)), H', ⟨by have := HK1.out; first | omega | exact Nat.le_refl _⟩, by repeat (first | exact Drawn0.refl _ | apply Drawn0.step)⟩
                · rw [if_neg c8] at H
                  have c8b0 : (((rd_T96 l0 x5_1).f0) == ((rd_T96 l1 x5_1).f0)) = false := beq_eq_false_iff_ne.mpr c8
                  have c8b1 : (((rd_T96 l0 x5_1).f0) != ((rd_T96 l1 x5_1).f0)) = true := bne_iff_ne.mpr c8
                  have H' := Aside0.mk H
                  clear H
                  have p125 : 0 ≤ (x5_1 : Int) := of_decide_eq_true (by first | (with_reducible assumption) | assumption)
                  have q125 : x5_1 < (l0.length : Int) := of_decide_eq_true (by first | (with_reducible assumption) | assumption)
                  obtain ⟨ad125, A125_1, c125_1, e125, hx125_0, hx125_1, hl125_1, hi125_1⟩ := at_T96 HR0.out x5_1 p125 q125
                  cases e125
                  have HR125_1 := Aside0.mk hi125_1
                  have HC125_1 := Aside0.mk hl125_1
                  clear hi125_1 hl125_1
                  replace p125 := eq_true p125
                  replace q125 := eq_true q125
                  have p126 : 0 ≤ (x5_1 : Int) := of_decide_eq_true (by first | (with_reducible assumption) | assumption)
                  have q126 : x5_1 < (l1.length : Int) := of_decide_eq_true (by first | (with_reducible assumption) | assumption)
                  obtain ⟨ad126, A126_1, c126_1, e126, hx126_0, hx126_1, hl126_1, hi126_1⟩ := at_T96 HR1.out x5_1 p126 q126
                  cases e126
                  have HR126_1 := Aside0.mk hi126_1
                  have HC126_1 := Aside0.mk hl126_1
                  clear hi126_1 hl126_1
                  replace p126 := eq_true p126
                  replace q126 := eq_true q126
                  go_wp2
                  repeat (go_quiet (fail); try go_wp2)
                  go_meet
                  case rel => exact ⟨_, (true), (by first | rfl | (simp; done) | (simp [*]; done)), H', ⟨by have := HK1.out; first | omega | exact Nat.le_refl _⟩, by repeat (first | exact Drawn0.refl _ | apply Drawn0.step)⟩
              · rw [if_neg c7] at H
                exact absurd H (by simp)
            · rw [if_neg c6] at H
              exact absurd H (by simp)
          case rest =>
            clear HC5
            try clear c1
            try clear p1
            try clear q1
            try clear hx1
            try clear p2
            try clear c3
            try clear c3b0
            try clear c3b1
            try clear c3b2
            try clear c4
            try clear c4b0
            try clear c6
            try clear c6b0
            try clear c7
            try clear c7b0
            try clear c8
            try clear c8b0
            try clear c8b1
            try clear hx125_0
            try clear hx125_1
            try clear hx126_0
            try clear hx126_1
            try clear hx127_0
            try clear hx127_1
            try clear hx128_0
            try clear hx128_1
            try clear p125
            try clear p126
            try clear p127
            try clear p128
            try clear p2
            try clear q125
            try clear q126
            try clear q127
            try clear q128
            obtain ⟨kq, x43_4, rfl, HA, HJ4, ⟨mc4, rfl⟩⟩ := hcut
            cases kq with
            | zero => exact absurd HA.out (by simp [tilefarmref8_Same.j1])
            | succ kj4 =>
              have H := HA.out
              clear HA
              simp only [tilefarmref8_Same.j1] at H
              by_cases c9 : x43_4 = true
              · subst c9
                have H1 : (some false) = some r := by rw [if_pos rfl] at H; exact H
                clear H
                have H := H1
                clear H1
                obtain rfl := Option.some.inj H
                go_wp2
                repeat (go_quiet (fail); try go_wp2)
                go_ret
                exact ⟨by first | rfl | (simp; done) | (simp [*]; done), by repeat (first | exact Drawn0.refl _ | apply Drawn0.step)⟩
              · replace c9 := Bool.eq_false_iff.mpr c9
                subst c9
                have H1 : (tilefarmref8_Same.l1 kj4 l0 l1 x5_1 0) = some r := by rw [if_neg (show ¬ (false = true) by decide)] at H; exact H
                clear H
                have H := H1
                clear H1
                have H' := Aside0.mk H
                clear H
                go_wp2
                repeat (go_quiet (fail); try go_wp2)
                go_loopg [6] kj4 (fun kq v6 w' => ∃ (x6_3 : Int), v6 = .int .i64 x6_3 ∧ Aside0 (tilefarmref8_Same.l1 kq l0 l1 x5_1 x6_3 = some r) ∧ Aside0 (kq ≤ kj4) ∧ Drawn0 w w')
                case atStart => exact ⟨(0), (by first | rfl | (simp; done) | (simp [*]; done)), H', ⟨Nat.le_refl _⟩, by repeat (first | exact Drawn0.refl _ | apply Drawn0.step)⟩
                case round =>
                  clear H'
                  try clear c1
                  try clear p1
                  try clear q1
                  try clear hx1
                  try clear p2
                  try clear c3
                  try clear c3b0
                  try clear c3b1
                  try clear c3b2
                  try clear c4
                  try clear c4b0
                  try clear c6
                  try clear c6b0
                  try clear c7
                  try clear c7b0
                  try clear c8
                  try clear c8b0
                  try clear c8b1
                  try clear c9
                  try clear hx125_0
                  try clear hx125_1
                  try clear hx126_0
                  try clear hx126_1
                  try clear hx127_0
                  try clear hx127_1
                  try clear hx128_0
                  try clear hx128_1
                  try clear p1
                  try clear p125
                  try clear p126
                  try clear p127
                  try clear p128
                  try clear p2
                  try clear q1
                  try clear q125
                  try clear q126
                  try clear q127
                  try clear q128
                  obtain ⟨x6_3, rfl, HA, HK3, ⟨m3, rfl⟩⟩ := hrel
                  cases gk with
                  | zero => exact absurd HA.out (by simp [tilefarmref8_Same.l1])
                  | succ k3 =>
                    have H := HA.out
                    clear HA
                    simp only [tilefarmref8_Same.l1] at H
                    by_cases c10 : 0 ≤ x5_1
                    · rw [if_pos c10] at H
                      have c10b0 : decide (0 ≤ x5_1) = true := decide_eq_true c10
                      clear c10
                      by_cases c11 : x5_1 < (l0.length : Int)
                      · rw [if_pos c11] at H
                        have c11b0 : decide (x5_1 < (l0.length : Int)) = true := decide_eq_true c11
                        clear c11
                        by_cases c12 : x6_3 < (((rd_T96 l0 x5_1).f1).length : Int)
                        · rw [if_pos c12] at H
                          have c12b0 : decide (x6_3 < (((rd_T96 l0 x5_1).f1).length : Int)) = true := decide_eq_true c12
                          clear c12
                          by_cases c13 : 0 ≤ x6_3
                          · rw [if_pos c13] at H
                            have c13b0 : decide (0 ≤ x6_3) = true := decide_eq_true c13
                            clear c13
                            by_cases c14 : x5_1 < (l1.length : Int)
                            · rw [if_pos c14] at H
                              have c14b0 : decide (x5_1 < (l1.length : Int)) = true := decide_eq_true c14
                              clear c14
                              by_cases c15 : x6_3 < (((rd_T96 l1 x5_1).f1).length : Int)
                              · rw [if_pos c15] at H
                                have c15b0 : decide (x6_3 < (((rd_T96 l1 x5_1).f1).length : Int)) = true := decide_eq_true c15
                                clear c15
                                by_cases c16 : (rd ((rd_T96 l0 x5_1).f1) x6_3) = (rd ((rd_T96 l1 x5_1).f1) x6_3)
                                · rw [if_pos c16] at H
                                  have c16b0 : ((rd ((rd_T96 l0 x5_1).f1) x6_3) == (rd ((rd_T96 l1 x5_1).f1) x6_3)) = true := beq_iff_eq.mpr c16
                                  have c16b1 : ((rd ((rd_T96 l0 x5_1).f1) x6_3) != (rd ((rd_T96 l1 x5_1).f1) x6_3)) = false := bne_eq_false_iff_eq.mpr c16
                                  clear c16
                                  have H' := Aside0.mk H
                                  clear H
                                  have p129 : 0 ≤ (x5_1 : Int) := of_decide_eq_true (by first | (with_reducible assumption) | assumption)
                                  have q129 : x5_1 < (l0.length : Int) := of_decide_eq_true (by first | (with_reducible assumption) | assumption)
                                  obtain ⟨ad129, A129_1, c129_1, e129, hx129_0, hx129_1, hl129_1, hi129_1⟩ := at_T96 HR0.out x5_1 p129 q129
                                  cases e129
                                  have HR129_1 := Aside0.mk hi129_1
                                  have HC129_1 := Aside0.mk hl129_1
                                  clear hi129_1 hl129_1
                                  replace p129 := eq_true p129
                                  replace q129 := eq_true q129
                                  have p130 : 0 ≤ (x5_1 : Int) := of_decide_eq_true (by first | (with_reducible assumption) | assumption)
                                  have q130 : x5_1 < (l0.length : Int) := of_decide_eq_true (by first | (with_reducible assumption) | assumption)
                                  obtain ⟨ad130, A130_1, c130_1, e130, hx130_0, hx130_1, hl130_1, hi130_1⟩ := at_T96 HR0.out x5_1 p130 q130
                                  obtain rfl : ad129 = ad130 := (by injection e130)
                                  have HR130_1 := Aside0.mk hi130_1
                                  have HC130_1 := Aside0.mk hl130_1
                                  clear hi130_1 hl130_1
                                  replace p130 := eq_true p130
                                  replace q130 := eq_true q130
                                  have ea_ := Option.some.inj (hx129_1.symm.trans hx130_1)
                                  injection ea_ with ea_ en_ ec_
                                  subst ea_
                                  subst ec_
                                  clear en_
                                  have p131 : 0 ≤ (x6_3 : Int) := of_decide_eq_true (by first | (with_reducible assumption) | assumption)
                                  have q131 : x6_3 < (((rd_T96 l0 x5_1).f1).length : Int) := of_decide_eq_true (by first | (with_reducible assumption) | assumption)
                                  obtain ⟨ad131, e131, hx131_0⟩ := Kd.at_int HR130_1.out x6_3 p131 q131
                                  cases e131
                                  replace p131 := eq_true p131
                                  replace q131 := eq_true q131
                                  have p132 : 0 ≤ (x5_1 : Int) := of_decide_eq_true (by first | (with_reducible assumption) | assumption)
                                  have q132 : x5_1 < (l1.length : Int) := of_decide_eq_true (by first | (with_reducible assumption) | assumption)
                                  obtain ⟨ad132, A132_1, c132_1, e132, hx132_0, hx132_1, hl132_1, hi132_1⟩ := at_T96 HR1.out x5_1 p132 q132
                                  cases e132
                                  have HR132_1 := Aside0.mk hi132_1
                                  have HC132_1 := Aside0.mk hl132_1
                                  clear hi132_1 hl132_1
                                  replace p132 := eq_true p132
                                  replace q132 := eq_true q132
                                  have p133 : 0 ≤ (x6_3 : Int) := of_decide_eq_true (by first | (with_reducible assumption) | assumption)
                                  have q133 : x6_3 < (((rd_T96 l1 x5_1).f1).length : Int) := of_decide_eq_true (by first | (with_reducible assumption) | assumption)
                                  obtain ⟨ad133, e133, hx133_0⟩ := Kd.at_int HR132_1.out x6_3 p133 q133
                                  cases e133
                                  replace p133 := eq_true p133
                                  replace q133 := eq_true q133
                                  go_wp2
                                  repeat (go_quiet (fail); try go_wp2)
                                  go_roundg k3
                                  case measure => have := HK1.out; have := HJ4.out; have := HK3.out; omega
                                  case rel => exact ⟨(wrap64 (x6_3 + 1)), (by first | rfl | (simp; done) | (simp [*]; done)), H', ⟨by have := HK1.out; have := HJ4.out; have := HK3.out; omega⟩, by repeat (first | exact Drawn0.refl _ | apply Drawn0.step)⟩
                                · rw [if_neg c16] at H
                                  have c16b0 : ((rd ((rd_T96 l0 x5_1).f1) x6_3) == (rd ((rd_T96 l1 x5_1).f1) x6_3)) = false := beq_eq_false_iff_ne.mpr c16
                                  have c16b1 : ((rd ((rd_T96 l0 x5_1).f1) x6_3) != (rd ((rd_T96 l1 x5_1).f1) x6_3)) = true := bne_iff_ne.mpr c16
                                  obtain rfl := Option.some.inj H
                                  have p129 : 0 ≤ (x5_1 : Int) := of_decide_eq_true (by first | (with_reducible assumption) | assumption)
                                  have q129 : x5_1 < (l0.length : Int) := of_decide_eq_true (by first | (with_reducible assumption) | assumption)
                                  obtain ⟨ad129, A129_1, c129_1, e129, hx129_0, hx129_1, hl129_1, hi129_1⟩ := at_T96 HR0.out x5_1 p129 q129
                                  cases e129
                                  have HR129_1 := Aside0.mk hi129_1
                                  have HC129_1 := Aside0.mk hl129_1
                                  clear hi129_1 hl129_1
                                  replace p129 := eq_true p129
                                  replace q129 := eq_true q129
                                  have p130 : 0 ≤ (x5_1 : Int) := of_decide_eq_true (by first | (with_reducible assumption) | assumption)
                                  have q130 : x5_1 < (l0.length : Int) := of_decide_eq_true (by first | (with_reducible assumption) | assumption)
                                  obtain ⟨ad130, A130_1, c130_1, e130, hx130_0, hx130_1, hl130_1, hi130_1⟩ := at_T96 HR0.out x5_1 p130 q130
                                  obtain rfl : ad129 = ad130 := (by injection e130)
                                  have HR130_1 := Aside0.mk hi130_1
                                  have HC130_1 := Aside0.mk hl130_1
                                  clear hi130_1 hl130_1
                                  replace p130 := eq_true p130
                                  replace q130 := eq_true q130
                                  have ea_ := Option.some.inj (hx129_1.symm.trans hx130_1)
                                  injection ea_ with ea_ en_ ec_
                                  subst ea_
                                  subst ec_
                                  clear en_
                                  have p131 : 0 ≤ (x6_3 : Int) := of_decide_eq_true (by first | (with_reducible assumption) | assumption)
                                  have q131 : x6_3 < (((rd_T96 l0 x5_1).f1).length : Int) := of_decide_eq_true (by first | (with_reducible assumption) | assumption)
                                  obtain ⟨ad131, e131, hx131_0⟩ := Kd.at_int HR130_1.out x6_3 p131 q131
                                  cases e131
                                  replace p131 := eq_true p131
                                  replace q131 := eq_true q131
                                  have p132 : 0 ≤ (x5_1 : Int) := of_decide_eq_true (by first | (with_reducible assumption) | assumption)
                                  have q132 : x5_1 < (l1.length : Int) := of_decide_eq_true (by first | (with_reducible assumption) | assumption)
                                  obtain ⟨ad132, A132_1, c132_1, e132, hx132_0, hx132_1, hl132_1, hi132_1⟩ := at_T96 HR1.out x5_1 p132 q132
                                  cases e132
                                  have HR132_1 := Aside0.mk hi132_1
                                  have HC132_1 := Aside0.mk hl132_1
                                  clear hi132_1 hl132_1
                                  replace p132 := eq_true p132
                                  replace q132 := eq_true q132
                                  have p133 : 0 ≤ (x6_3 : Int) := of_decide_eq_true (by first | (with_reducible assumption) | assumption)
                                  have q133 : x6_3 < (((rd_T96 l1 x5_1).f1).length : Int) := of_decide_eq_true (by first | (with_reducible assumption) | assumption)
                                  obtain ⟨ad133, e133, hx133_0⟩ := Kd.at_int HR132_1.out x6_3 p133 q133
                                  cases e133
                                  replace p133 := eq_true p133
                                  replace q133 := eq_true q133
                                  go_wp2
                                  repeat (go_quiet (fail); try go_wp2)
                                  go_ret
                                  exact ⟨by first | rfl | (simp; done) | (simp [*]; done), by repeat (first | exact Drawn0.refl _ | apply Drawn0.step)⟩
                              · rw [if_neg c15] at H
                                exact absurd H (by simp)
                            · rw [if_neg c14] at H
                              exact absurd H (by simp)
                          · rw [if_neg c13] at H
                            exact absurd H (by simp)
                        · rw [if_neg c12] at H
                          have c12b0 : decide (x6_3 < (((rd_T96 l0 x5_1).f1).length : Int)) = false := decide_eq_false c12
                          clear c12
                          have H' := Aside0.mk H
                          clear H
                          have p129 : 0 ≤ (x5_1 : Int) := of_decide_eq_true (by first | (with_reducible assumption) | assumption)
                          have q129 : x5_1 < (l0.length : Int) := of_decide_eq_true (by first | (with_reducible assumption) | assumption)
                          obtain ⟨ad129, A129_1, c129_1, e129, hx129_0, hx129_1, hl129_1, hi129_1⟩ := at_T96 HR0.out x5_1 p129 q129
                          cases e129
                          have HR129_1 := Aside0.mk hi129_1
                          have HC129_1 := Aside0.mk hl129_1
                          clear hi129_1 hl129_1
                          replace p129 := eq_true p129
                          replace q129 := eq_true q129
                          go_wp2
                          repeat (go_quiet (fail); try go_wp2)
                          go_roundg k3
                          case measure => have := HK1.out; have := HJ4.out; have := HK3.out; omega
                          case rel => exact ⟨(wrap64 (x5_1 + 1)), (by first | rfl | (simp; done) | (simp [*]; done)), H', ⟨by have := HK1.out; have := HJ4.out; have := HK3.out; omega⟩, by repeat (first | exact Drawn0.refl _ | apply Drawn0.step)⟩
                      · rw [if_neg c11] at H
                        exact absurd H (by simp)
                    · rw [if_neg c10] at H
                      exact absurd H (by simp)
        · rw [if_neg c4] at H
          have c4b0 : decide (x5_1 < (l0.length : Int)) = false := decide_eq_false c4
          clear c4
          obtain rfl := Option.some.inj H
          go_wp2
          repeat (go_quiet (fail); try go_wp2)
          go_ret
          exact ⟨by first | rfl | (simp; done) | (simp [*]; done), by repeat (first | exact Drawn0.refl _ | apply Drawn0.step)⟩
  · rw [if_neg c3] at H
    have c3b0 : ((l0.length : Int) == (l1.length : Int)) = false := beq_eq_false_iff_ne.mpr c3
    have c3b1 : ((l0.length : Int) != (l1.length : Int)) = true := bne_iff_ne.mpr c3
    have c3b2 : (l0.length == l1.length) = false := by first | simpa using c3 | (simp at c3 ⊢; omega)
    obtain rfl := Option.some.inj H
    go_enter Try.func48, Try.ntmps48
    go_wp2
    repeat (go_quiet (fail); try go_wp2)
    go_ret
    exact ⟨by first | rfl | (simp; done) | (simp [*]; done), by repeat (first | exact Drawn0.refl _ | apply Drawn0.step)⟩

-- NOT PRINTED: function 34 (tilefarmref19_SameStage)

-- NOT PRINTED: function 12 (tilefarmref19_Same)

-- NOT PRINTED: function 54 (codec_reader_take)

-- NOT PRINTED: function 55 (codec_reader_number)

-- NOT PRINTED: function 56 (codec_reader_count)

-- NOT PRINTED: function 57 (codec_reader_list)

-- NOT PRINTED: function 66 (codec_reader_truth)

-- NOT PRINTED: function 67 (codec_reader_taps)

-- NOT PRINTED: function 58 (codec_reader_stage)

-- NOT PRINTED: function 40 (codec_reader_job)

-- NOT PRINTED: function 17 (codec_Decode)

-- NOT PRINTED: function 13 (tilefarmlaw19_sane)

/-! ### tilefarmgen_Mod: function 18 -/
def tilefarmgen_Mod.f (a0 : Int) (a1 : Int) : Option (Int) := if a1 = 0 then (none) else (if (Int.tmod a0 a1) < 0 then (some (wrap64 ((Int.tmod a0 a1) + a1))) else (some (Int.tmod a0 a1)))
set_option maxHeartbeats 8000000 in
set_option maxRecDepth 100000 in
theorem tilefarmgen_Mod.calls (a0 : Int) (a1 : Int) (r : Int) (w : World) (h : tilefarmgen_Mod.f a0 a1 = some r) :
    Calls Try.prog 18 #[.int .i64 a0, .int .i64 a1] w fun e w' => e = .returned (.int .i64 r) ∧ Drawn0 w w' := by
  have H : (if a1 = 0 then (none) else (if (Int.tmod a0 a1) < 0 then (some (wrap64 ((Int.tmod a0 a1) + a1))) else (some (Int.tmod a0 a1)))) = some r := h
  clear h
  by_cases c3 : a1 = 0
  · rw [if_pos c3] at H
    exact absurd H (by simp)
  · rw [if_neg c3] at H
    have c3b0 : (a1 == 0) = false := beq_eq_false_iff_ne.mpr c3
    have c3b1 : (a1 != 0) = true := bne_iff_ne.mpr c3
    by_cases c4 : (Int.tmod a0 a1) < 0
    · rw [if_pos c4] at H
      have c4b0 : decide ((Int.tmod a0 a1) < 0) = true := decide_eq_true c4
      clear c4
      obtain rfl := Option.some.inj H
      go_enter Try.func18, Try.ntmps18
      go_wp2
      go_ret
      exact ⟨by first | rfl | (simp; done) | (simp [*]; done), by repeat (first | exact Drawn0.refl _ | apply Drawn0.step)⟩
    · rw [if_neg c4] at H
      have c4b0 : decide ((Int.tmod a0 a1) < 0) = false := decide_eq_false c4
      clear c4
      obtain rfl := Option.some.inj H
      go_enter Try.func18, Try.ntmps18
      go_wp2
      go_ret
      exact ⟨by first | rfl | (simp; done) | (simp [*]; done), by repeat (first | exact Drawn0.refl _ | apply Drawn0.step)⟩

-- NOT PRINTED: function 7 (tilefarmlaw19_CodecLimits)

end Go.Proofs.Ytlballjigibphaa.PCodecLimits
