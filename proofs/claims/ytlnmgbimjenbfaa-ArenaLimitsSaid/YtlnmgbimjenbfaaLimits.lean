/- 'ArenaLimits' returns true for all integers: MaxMarks marks are accepted and not one more; released marks come back in the opposite order; what a nil arena answers. No conditions. This text: the walk of the law. -/
import Derived.Test.YtlnmgbimjenbfaaTp
namespace Go.Proofs.Ytlnmgbimjenbfaa.Limits
open Go.RowKit Go.Proofs.YtlnmgbimjenbfaaW.PrintWords Go.Proofs.YtlnmgbimjenbfaaW.PrintLast Go.Proofs.YtlnmgbimjenbfaaW.PrintMore
open Go.Proofs.Ytlnmgbimjenbfaa.PArenaFollows
open Go.Proofs.Ytlnmgbimjenbfaa.Ar Go.Proofs.Ytlnmgbimjenbfaa.Tp
set_option linter.unusedVariables false

theorem alloc_one (c u h : Int) (h0 : 0 ≤ u) (h1 : u + 1 ≤ c) (h2 : c ≤ 1048576) : allocR c u h 1 1 = (u, 0, u + 1, max h (u + 1)) := by
  unfold allocR
  rw [if_neg (by omega)]
  have e : alignR u 1 c = (u, true) := by
    unfold alignR ceilM
    simp only [Int.emod_one, Int.ediv_one, Int.mul_one]
    rw [if_neg (by omega : ¬ (0 : Int) > 0), if_pos (by omega)]
  rw [e, if_pos ⟨rfl, by simp only; omega⟩]

/-- The marks behind k rounds. -/
def lst (m k : Nat) : List Int := (List.range k).map fun j => ((min (j + 1) m : Nat) : Int)
theorem lst_succ (m k : Nat) : lst m (k + 1) = lst m k ++ [((min (k + 1) m : Nat) : Int)] := by unfold lst; rw [List.range_succ]; simp
theorem lst_length (m k : Nat) : (lst m k).length = k := by simp [lst]

set_option maxHeartbeats 4000000 in
set_option maxRecDepth 100000 in
theorem walk (n : Int) (w : World) : Calls Try.prog 5 #[.int .i64 n] w fun e w' => e = .returned (.bool true) ∧ Below w.heap.size w w' := by
  obtain ⟨m1, hm1, m1a, m1b⟩ := mod_is n 800 (by omega) (by omega)
  have HM1 := Aside0.mk hm1
  clear hm1
  go_enter Try.func5, Try.ntmps5
  go_wp2_with fail
  refine (a_new_ok (w0 := w) 1048576 (by omega) (by omega) (Below.refl _ _)).mono ?_
  rintro e w1 ⟨p, rfl, h1, hp, b1⟩
  have H1 := Aside0.mk h1
  have B1 := Aside0.mk b1
  clear h1 b1
  go_wp2_with fail
  refine (tilefarmgen_Mod.calls n 800 m1 _ HM1.out).mono ?_
  rintro e w2 ⟨rfl, ⟨n1, rfl⟩⟩
  have HD := Aside0.mk (pw_below_drewN (Below.refl w1.heap.size w1) n1)
  have H2 : Aside0 (Ar 46 w (w1.drewN n1) p 1048576 0 0 (fun k => k ≠ p ∧ w.heap.size ≤ k) []) := ⟨H1.out.below HD.out⟩
  have B2 : Aside0 (Below w.heap.size w (w1.drewN n1)) := ⟨below_then B1.out B1.out.size HD.out⟩
  clear H1 B1 HD HM1
  generalize w1.drewN n1 = w3 at *
  go_wp2_with fail
  obtain ⟨m, hm⟩ := Int.eq_ofNat_of_zero_le (show 0 ≤ 1 + m1 by omega)
  have hm2 : 1 ≤ m ∧ m ≤ 800 := by omega
  rw [hm]
  clear hm m1a m1b
  go_loopw [6] (fun i wr => ∃ k : Nat, k ≤ 1024 ∧ i = .int .i64 (k : Int) ∧ ∃ h : Int, Aside0 (Ar 46 w wr p 1048576 ((min k m : Nat) : Int) h (fun k => k ≠ p ∧ w.heap.size ≤ k) (lst m k)) ∧ Aside0 (Below w.heap.size w wr)) (fun i _ => 1024 - (intOf i).toNat)
  case atStart => exact ⟨0, by omega, rfl, 0, by simpa [lst] using H2, B2⟩
  case round =>
    clear H2 B2
    obtain ⟨k, hk, rfl, h, HA, HB⟩ := hrel
    by_cases hlt : k < 1024
    · by_cases hkm : k < m
      · obtain ⟨u, hu⟩ : ∃ u : Nat, u = min k m := ⟨_, rfl⟩
        rw [← hu] at HA
        have hu2 : min (k + 1) m = u + 1 := by omega
        go_wp2_with fail
        have eq1 := alloc_one 1048576 u h (by omega) (by omega) (by omega)
        refine (a_alloc 1 1 HA.out HB.out (by omega) (by omega) (by omega)).mono ?_
        rw [eq1]
        rintro e w4 ⟨rfl, a4, b4, _⟩
        have A4 := Aside0.mk a4
        have B4 := Aside0.mk b4
        clear a4 b4 HA HB eq1
        go_wp2_with fail
        refine (a_mark A4.out B4.out (by rw [lst_length]; omega)).mono ?_
        rintro e w5 ⟨rfl, a5, b5, _⟩
        have A5 := Aside0.mk a5
        have B5 := Aside0.mk b5
        clear a5 b5 A4 B4
        go_wp2_with fail
        go_roundw
        case rel => exact ⟨k + 1, by omega, by go_num, max h (u + 1), ⟨by rw [lst_succ, hu2]; exact A5.out⟩, B5⟩
        case measure => simp [intOf]; omega
      · have hu2 : min (k + 1) m = min k m := by omega
        go_wp2_with fail
        refine (a_mark HA.out HB.out (by rw [lst_length]; omega)).mono ?_
        rintro e w5 ⟨rfl, a5, b5, _⟩
        have A5 := Aside0.mk a5
        have B5 := Aside0.mk b5
        clear a5 b5 HA HB
        go_wp2_with fail
        go_roundw
        case rel => exact ⟨k + 1, by omega, by go_num, h, ⟨by rw [lst_succ, hu2]; exact A5.out⟩, B5⟩
        case measure => simp [intOf]; omega
    · obtain rfl : k = 1024 := by omega
      go_wp2_with fail
      refine (a_mark_full HA.out (by rw [lst_length]; omega)).mono ?_
      rintro e w5 ⟨rfl, rfl⟩
      have AM := a_marks HA.out
      rw [lst_length] at AM
      have HAM := Aside0.mk AM
      clear AM
      go_wp2_with (go_at_call 12; refine HAM.out.mono ?_; rintro e w6 ⟨rfl, rfl⟩)
      clear HAM
      have HU : ∃ u : Int, Aside0 (Ar 46 w wr p 1048576 u h (fun k => k ≠ p ∧ w.heap.size ≤ k) (lst m 1024)) := ⟨_, HA⟩
      clear HA
      go_loopw [9] (fun i wr => ∃ k : Nat, k ≤ 1024 ∧ i = .int .i64 (k : Int) ∧ (∃ u : Int, Aside0 (Ar 46 w wr p 1048576 u h (fun k => k ≠ p ∧ w.heap.size ≤ k) (lst m k))) ∧ Aside0 (Below w.heap.size w wr)) (fun i _ => (intOf i).toNat)
      case atStart => exact ⟨1024, by omega, rfl, HU, HB⟩
      case round =>
        clear HU HB
        obtain ⟨k, hk, rfl, ⟨u, HA⟩, HB⟩ := hrel
        by_cases h0 : k = 0
        · subst h0
          have HA0 : Aside0 (Ar 46 w wr p 1048576 u h (fun k => k ≠ p ∧ w.heap.size ≤ k) []) := HA
          clear HA
          go_wp2_with fail
          refine (a_alloc_nil 1 1 _).mono ?_
          rintro e w5 ⟨rfl, rfl⟩
          go_wp2_with fail
          refine (a_reset_nil _).mono ?_
          rintro e w5 ⟨rfl, rfl⟩
          go_wp2_with fail
          refine (a_mark_nil _).mono ?_
          rintro e w5 ⟨rfl, rfl⟩
          go_wp2_with fail
          refine (a_release_none HA0.out).mono ?_
          rintro e w5 ⟨rfl, rfl⟩
          go_wp2_with (first | (go_at_call 16; refine (a_release_nil _).mono ?_; rintro e w5 ⟨rfl, rfl⟩) | (go_at_call 11; refine (a_used_nil _).mono ?_; rintro e w5 ⟨rfl, rfl⟩) | (go_at_call 12; refine (a_marks_nil _).mono ?_; rintro e w5 ⟨rfl, rfl⟩) | (go_at_call 15; refine (a_high_nil _).mono ?_; rintro e w5 ⟨rfl, rfl⟩) | (go_at_call 17; refine (sane_calls _).mono ?_; rintro e w8 ⟨rfl, b8⟩))
          go_ret
          exact ⟨rfl, below_then HB.out HB.out.size b8⟩
        · obtain ⟨k, rfl⟩ : ∃ j, k = j + 1 := ⟨k - 1, by omega⟩
          have A0 := HA.out
          rw [lst_succ] at A0
          have HA0 := Aside0.mk A0
          clear A0 HA
          obtain ⟨v, hv⟩ : ∃ v : Nat, v = min (k + 1) m := ⟨_, rfl⟩
          rw [← hv] at HA0
          go_wp2_with fail
          refine (a_release HA0.out HB.out (by rw [lst_length]; omega)).mono ?_
          rintro e w5 ⟨rfl, a5, b5, _⟩
          have A5 := Aside0.mk a5
          have B5 := Aside0.mk b5
          clear a5 b5 HA0 HB
          by_cases hkm : k + 1 ≤ m
          · obtain rfl : v = k + 1 := by omega
            clear hv
            have hc : ¬ ((m : Int) < ((k + 1 : Nat) : Int)) := by omega
            have ee : ((((k + 1 : Nat) : Int)) != ((k + 1 : Nat) : Int)) = false := by simp
            go_wp2_with (go_at_call 11; refine (a_used A5.out).mono ?_; rintro e w6 ⟨rfl, rfl⟩)
            go_roundw
            case rel => exact ⟨k, by omega, by go_num, ⟨_, A5⟩, B5⟩
            case measure => simp [intOf]
          · obtain rfl : m = v := by omega
            clear hv
            have hc : (m : Int) < ((k + 1 : Nat) : Int) := by omega
            have ee : ((m : Int) != (m : Int)) = false := by simp
            go_wp2_with (go_at_call 11; refine (a_used A5.out).mono ?_; rintro e w6 ⟨rfl, rfl⟩)
            go_roundw
            case rel => exact ⟨k, by omega, by go_num, ⟨_, A5⟩, B5⟩
            case measure => simp [intOf]

theorem law (a0 : Int) (w : World) : Calls Try.prog 5 #[.int .i64 a0] w fun e w' => e = .returned (.bool true) ∧ Below w.heap.size w w' := walk a0 w

end Go.Proofs.Ytlnmgbimjenbfaa.Limits
