/- The codec's reader: number, count and list where zeros stand, walked. -/
import Derived.Test.YtlballjigibphaaRd
namespace Go.Proofs.Ytlballjigibphaa.Rd
open Go.RowKit Go.Proofs.YtlballjigibphaaW.PrintWords Go.Proofs.YtlballjigibphaaW.PrintLast Go.Proofs.YtlballjigibphaaW.PrintMore
open Go.Proofs.Ytlballjigibphaa.PCodecLimits
set_option linter.unusedVariables false

def zs (n : Nat) : List Int := List.replicate n 0
theorem rd_zs (n k : Nat) : rd (zs n) (k : Int) = 0 := by
  unfold rd zs
  rw [Int.toNat_natCast, List.getD_eq_getElem?_getD, List.getElem?_replicate]
  split <;> rfl

set_option maxHeartbeats 1000000 in
set_option maxRecDepth 100000 in
theorem number_zero {w0 w : World} {p : Nat} (m : Nat) (h : Rd w0 w p (zs (8 + m))) (hm : m ≤ 1000) :
    Calls Try.prog 55 #[.pointer (some ⟨p, 0, none⟩)] w fun e w' => e = .returned (.int .i64 0) ∧ Rd w0 w' p (zs m) ∧ Kept w w' (fun q => q = p) := by
  have H := Aside0.mk h
  clear h
  go_enter Try.func55, Try.ntmps55
  go_wp2_with fail
  refine (take_rd 8 H.out (by simp [zs]) (by simp [zs]; omega)).mono ?_
  rintro e w1 ⟨⟨A, c, rfl, hl, hc⟩, h1, k1⟩
  have e8 : (zs (8 + m)).take 8 = zs 8 := by simp [zs]
  have em : (zs (8 + m)).drop 8 = zs m := by simp [zs]
  rw [e8] at hl hc ⊢
  rw [em] at h1
  have H1 := Aside0.mk h1
  have K1 := Aside0.mk k1
  have HC := Aside0.mk (Kd.C_below hc h1.below)
  have el : (zs 8).length = 8 := by simp [zs]
  rw [el]
  clear h1 k1 hc e8 em
  go_wp2_with fail
  go_loopw [3, 9] (fun v3 v9 wr => ∃ k : Nat, k ≤ 8 ∧ v3 = .int .u64 0 ∧ v9 = .int .i64 (k : Int) ∧ w1 = wr) (fun _ i _ => 8 - (intOf i).toNat)
  case atStart => exact ⟨0, by omega, rfl, rfl, rfl⟩
  case round =>
    obtain ⟨k, hk, rfl, rfl, rfl⟩ := hrel
    by_cases hlt : k < 8
    · obtain ⟨ad, rfl, x0⟩ := Kd.at_int HC.out (k : Int) (by omega) (by rw [el]; omega)
      have hrd : rd (zs 8) (k : Int) = 0 := rd_zs 8 k
      rw [hrd, Int.toNat_natCast] at x0
      have i0 : (0 : Int) ≤ (k : Int) := by omega
      have i1 : (k : Int) < 8 := by omega
      go_wp2_with fail
      go_roundw
      case rel => exact ⟨k + 1, by omega, by first | rfl | simp, by go_num, by first | rfl | trivial⟩
      case measure => simp [intOf]; omega
    · obtain rfl : k = 8 := by omega
      go_wp2_with fail
      go_ret
      exact ⟨by first | rfl | simp, H1.out, K1.out⟩

set_option maxHeartbeats 1000000 in
set_option maxRecDepth 100000 in
theorem count_zero {w0 w : World} {p : Nat} (m : Nat) (h : Rd w0 w p (zs (8 + m))) (hm : m ≤ 1000) :
    Calls Try.prog 56 #[.pointer (some ⟨p, 0, none⟩)] w fun e w' => e = .returned (.int .i64 0) ∧ Rd w0 w' p (zs m) ∧ Kept w w' (fun q => q = p) := by
  have H := Aside0.mk h
  clear h
  go_enter Try.func56, Try.ntmps56
  go_wp2_with fail
  refine (number_zero m H.out hm).mono ?_
  rintro e w1 ⟨rfl, h1, k1⟩
  have H1 := Aside0.mk h1
  have K1 := Aside0.mk k1
  obtain ⟨A, c, q1, _⟩ := h1.row
  have h0 := (blk_cell q1 0).trans rfl
  have el : (zs m).length = m := by simp [zs]
  rw [el] at h0
  have t1 : decide ((0 : Int) > (Int.tdiv (m : Int) 8)) = false := by
    rw [Int.tdiv_eq_ediv_of_nonneg (by omega)]
    exact decide_eq_false (by omega)
  clear h1 k1 q1
  go_wp2_with fail
  all_goals
    go_ret
    exact ⟨rfl, H1.out, K1.out⟩

set_option maxHeartbeats 1000000 in
set_option maxRecDepth 100000 in
theorem list_zero {w0 w : World} {p : Nat} (m : Nat) (h : Rd w0 w p (zs (8 + m))) (hm : m ≤ 1000) :
    Calls Try.prog 57 #[.pointer (some ⟨p, 0, none⟩)] w fun e w' => e = .returned (.slice none 0 0) ∧ Rd w0 w' p (zs m) ∧ Kept w w' (fun q => q = p) := by
  have H := Aside0.mk h
  clear h
  go_enter Try.func57, Try.ntmps57
  go_wp2_with fail
  refine (count_zero m H.out hm).mono ?_
  rintro e w1 ⟨rfl, h1, k1⟩
  have H1 := Aside0.mk h1
  have K1 := Aside0.mk k1
  clear h1 k1
  go_wp2_with fail
  go_loopw [3, 6] (fun v3 v6 wr => v3 = .slice none 0 0 ∧ v6 = .int .i64 0 ∧ w1 = wr) (fun _ _ _ => 0)
  case atStart => exact ⟨rfl, rfl, rfl⟩
  case round =>
    obtain ⟨rfl, rfl, rfl⟩ := hrel
    go_wp2_with fail
    go_ret
    exact ⟨rfl, H1.out, K1.out⟩

end Go.Proofs.Ytlballjigibphaa.Rd
