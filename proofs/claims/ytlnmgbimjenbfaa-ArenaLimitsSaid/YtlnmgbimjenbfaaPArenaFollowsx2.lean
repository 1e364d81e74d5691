-- PRINTED BY print.sh 35421559b90ae4d0a3588c463048766b98c2df88dd9212a6774a882060cdf62d: not written by this session
import Derived.Test.YtlnmgbimjenbfaaPArenaFollowsx0
import Derived.Test.YtlnmgbimjenbfaaPArenaFollowsx1
namespace Go.Proofs.Ytlnmgbimjenbfaa.PArenaFollows
open Go.RowKit Go.Proofs.YtlnmgbimjenbfaaW.PrintWords Go.Proofs.YtlnmgbimjenbfaaW.PrintLast Go.Proofs.YtlnmgbimjenbfaaW.PrintMore
attribute [local go_sem] max2_int min2_int max_two min_two max_three min_three max_four min_four   -- for this text's walks alone
set_option linter.unusedVariables false
set_option linter.unusedSimpArgs false

/-! ### tilefarmref1_Align: function 29 -/
def tilefarmref1_Align.j0 : Nat → Int → Int → Int → Bool → Option (Int × Bool)
  | 0, _, _, _, _ => none
  | k + 1, x0, x1, x2, x13 => if x13 = true then (some (0, false)) else ((tilefarmref1_Ceil.f k x0 x1).bind fun t110 => ((tilefarmref1_Mul.f t110 x1 x2).bind fun bt111 => (some (bt111.1, bt111.2))))
def tilefarmref1_Align.f (k : Nat) (a0 : Int) (a1 : Int) (a2 : Int) : Option (Int × Bool) := if a0 < 0 then (tilefarmref1_Align.j0 k a0 a1 a2 true) else (tilefarmref1_Align.j0 k a0 a1 a2 (decide (a1 < 1)))
theorem tilefarmref1_Align.mono_l : ∀ k, (∀ y0 y1 y2 y3, LeO (tilefarmref1_Align.j0 k y0 y1 y2 y3) (tilefarmref1_Align.j0 (k + 1) y0 y1 y2 y3))
  | 0 => fun _ _ _ _ r h => by simp [tilefarmref1_Align.j0] at h
  | k + 1 => by
    have ih0 := tilefarmref1_Align.mono_l k
    · intro y0 y1 y2 y3
      unfold tilefarmref1_Align.j0
      repeat' first
      | (with_reducible exact ih0 _ _ _ _)
      | (with_reducible exact tilefarmref1_Ceil.mono _ _ _)
      | (with_reducible exact LeO.refl _)
      | (with_reducible exact LeO.none _)
      | (with_reducible refine LeO.ite ?_ ?_)
      | (with_reducible refine LeO.bind ?_ (fun _ => ?_))
      | exact ih0 _ _ _ _
      | exact tilefarmref1_Ceil.mono _ _ _
      | exact LeO.none _
      | refine LeO.ite ?_ ?_
      | refine LeO.bind ?_ (fun _ => ?_)
theorem tilefarmref1_Align.mono : ∀ a0 a1 a2 k, LeO (tilefarmref1_Align.f k a0 a1 a2) (tilefarmref1_Align.f (k + 1) a0 a1 a2) := by
  intro a0 a1 a2 k
  have ih0 := tilefarmref1_Align.mono_l k
  unfold tilefarmref1_Align.f
  repeat' first
      | (with_reducible exact ih0 _ _ _ _)
      | (with_reducible exact tilefarmref1_Ceil.mono _ _ _)
      | (with_reducible exact LeO.refl _)
      | (with_reducible exact LeO.none _)
      | (with_reducible refine LeO.ite ?_ ?_)
      | (with_reducible refine LeO.bind ?_ (fun _ => ?_))
      | exact ih0 _ _ _ _
      | exact tilefarmref1_Ceil.mono _ _ _
      | exact LeO.none _
      | refine LeO.ite ?_ ?_
      | refine LeO.bind ?_ (fun _ => ?_)
set_option maxHeartbeats 8000000 in
set_option maxRecDepth 100000 in
theorem tilefarmref1_Align.calls (k : Nat) (a0 : Int) (a1 : Int) (a2 : Int) (r1 : Int) (r2 : Bool) (w : World) (h : tilefarmref1_Align.f k a0 a1 a2 = some (r1, r2)) :
    Calls Try.prog 29 #[.int .i64 a0, .int .i64 a1, .int .i64 a2] w fun e w' => e = .returned (.tuple #[.int .i64 r1, .bool r2]) ∧ Drawn0 w w' := by
  have H : (if a0 < 0 then (tilefarmref1_Align.j0 k a0 a1 a2 true) else (tilefarmref1_Align.j0 k a0 a1 a2 (decide (a1 < 1)))) = some (r1, r2) := h
  clear h
  have HC4 := Aside0.mk H
  clear H
  go_enter Try.func29, Try.ntmps29
  go_upto_region 1 with (fail)
  go_cut [13] (fun v13 wc => ∃ (kq : Nat) (x13_3 : Bool), v13 = .bool x13_3 ∧ Aside0 (tilefarmref1_Align.j0 kq a0 a1 a2 x13_3 = some (r1, r2)) ∧ Aside0 (kq ≤ k) ∧ Drawn0 w wc)
  case first =>
    have H := HC4.out
    clear HC4
    by_cases c5 : a0 < 0
    · rw [if_pos c5] at H
      have c5b0 : decide (a0 < 0) = true := decide_eq_true c5
      clear c5
      (first | rw [c5b0] | (simp only [i64_w, i32_w]; rw [c5b0]) | skip)
      have H' := Aside0.mk H
      clear H
      go_wp2
      go_meet
      case rel => exact ⟨_, (true), (by first | rfl | (simp; done) | (simp [*]; done)), H', ⟨by first | omega | exact Nat.le_refl _⟩, by repeat (first | exact Drawn0.refl _ | apply Drawn0.step)⟩
    · rw [if_neg c5] at H
      have c5b0 : decide (a0 < 0) = false := decide_eq_false c5
      clear c5
      (first | rw [c5b0] | (simp only [i64_w, i32_w]; rw [c5b0]) | skip)
      have H' := Aside0.mk H
      clear H
      go_wp2
      go_meet
      case rel => exact ⟨_, (decide (a1 < 1)), (by first | rfl | (simp; done) | (simp [*]; done)), H', ⟨by first | omega | exact Nat.le_refl _⟩, by repeat (first | exact Drawn0.refl _ | apply Drawn0.step)⟩
  case rest =>
    clear HC4
    try clear c2
    try clear p2
    try clear c5
    try clear c5b0
    obtain ⟨kq, x13_3, rfl, HA, HJ3, ⟨mc3, rfl⟩⟩ := hcut
    cases kq with
    | zero => exact absurd HA.out (by simp [tilefarmref1_Align.j0])
    | succ kj3 =>
      have H := HA.out
      clear HA
      simp only [tilefarmref1_Align.j0] at H
      by_cases c6 : x13_3 = true
      · subst c6
        have H1 : (some (0, false)) = some (r1, r2) := by rw [if_pos rfl] at H; exact H
        clear H
        have H := H1
        clear H1
        simp only [Option.some.injEq, Prod.mk.injEq] at H
        obtain ⟨rfl, rfl⟩ := H
        go_wp2
        go_ret2
        exact ⟨by first | rfl | (simp; done) | (simp [*]; done), by repeat (first | exact Drawn0.refl _ | apply Drawn0.step)⟩
      · replace c6 := Bool.eq_false_iff.mpr c6
        subst c6
        have H1 : ((tilefarmref1_Ceil.f kj3 a0 a1).bind fun t110 => ((tilefarmref1_Mul.f t110 a1 a2).bind fun bt111 => (some (bt111.1, bt111.2)))) = some (r1, r2) := by rw [if_neg (show ¬ (false = true) by decide)] at H; exact H
        clear H
        have H := H1
        clear H1
        replace H := Option.bind_eq_some_iff.mp H
        obtain ⟨t110, A70, H⟩ := H
        replace H : ((tilefarmref1_Mul.f t110 a1 a2).bind fun bt111 => (some (bt111.1, bt111.2))) = some (r1, r2) := H
        have A7 := Aside0.mk A70
        clear A70
        replace H := Option.bind_eq_some_iff.mp H
        obtain ⟨⟨t111, t112⟩, A80, H⟩ := H
        replace H : (some (t111, t112)) = some (r1, r2) := H
        have A8 := Aside0.mk A80
        clear A80
        simp only [Option.some.injEq, Prod.mk.injEq] at H
        obtain ⟨rfl, rfl⟩ := H
        go_wp2_with (first | ((with_reducible refine gate_callee (f := 33) rfl ?_); refine goesL_ (some 16) rfl rfl Try.func33 (by kernel_rfl) rfl #[.int .i64 a0, .int .i64 a1] rfl (by (try simp only [List.map_toArray, List.map_cons, List.map_nil]); first | done | rfl | (simp only [List.length_drop, List.length_take]; rfl)) ?_; (with_reducible refine (tilefarmref1_Ceil.calls kj3 a0 a1 t110 _ A7.out).mono ?_); rintro e w' ⟨rfl, ⟨nd, rfl⟩⟩; refine ⟨_, rfl, ?_⟩) | ((with_reducible refine gate_callee (f := 32) rfl ?_); refine goesL_ (some 19) rfl rfl Try.func32 (by kernel_rfl) rfl #[.int .i64 t110, .int .i64 a1, .int .i64 a2] rfl (by (try simp only [List.map_toArray, List.map_cons, List.map_nil]); first | done | rfl | (simp only [List.length_drop, List.length_take]; rfl)) ?_; (with_reducible refine (tilefarmref1_Mul.calls t110 a1 a2 t111 t112 _ A8.out).mono ?_); rintro e w' ⟨rfl, ⟨nd, rfl⟩⟩; refine ⟨_, rfl, ?_⟩))
        go_ret2
        exact ⟨by first | rfl | (simp; done) | (simp [*]; done), by repeat (first | exact Drawn0.refl _ | apply Drawn0.step)⟩

-- NOT PRINTED: function 20 (tilefarmref22_Arena_Alloc)

-- NOT PRINTED: function 21 (tilefarmref22_Arena_Mark)

-- NOT PRINTED: function 22 (tilefarmref22_Arena_Release)

-- NOT PRINTED: function 23 (arena_Arena_Reset)

-- NOT PRINTED: function 24 (tilefarmref22_Arena_Reset)

-- NOT PRINTED: function 25 (tilefarmref22_Arena_Used)

-- NOT PRINTED: function 26 (tilefarmref22_Arena_High)

-- NOT PRINTED: function 27 (tilefarmref22_Arena_Marks)

-- NOT PRINTED: function 4 (tilefarmlaw22_ArenaFollows)

end Go.Proofs.Ytlnmgbimjenbfaa.PArenaFollows
