/- 'ExtentAligned' returns true for all integers: an aligned number is the least multiple that is not less. No conditions. -/
import Derived.Test.YtfbkfefidjpohaaPExtentAlignedx1
namespace Go.Proofs.Ytfbkfefidjpohaa.Pure
open Go.RowKit Go.Proofs.Ytfbkfefidjpohaa.PExtentAligned Go.Proofs.YtfbkfefidjpohaaW.PrintWords Go.Proofs.YtfbkfefidjpohaaW.PrintLast

theorem wrap_of (n : Int) (h : -9223372036854775808 ≤ n ∧ n ≤ 9223372036854775807) : wrap64 n = n := by
  unfold wrap64
  omega

theorem mod_is (a n : Int) (hn : 0 < n) (hb : n ≤ 4611686018427387904) : ∃ r, tilefarmgen_Mod.f a n = some r ∧ 0 ≤ r ∧ r < n := by
  have h1 := Int.tmod_lt_of_pos a hn
  have h2 : -n < Int.tmod a n := by
    have := Int.tmod_lt_of_pos (-a) hn
    rw [Int.neg_tmod] at this
    omega
  unfold tilefarmgen_Mod.f
  rw [if_neg (by omega)]
  split
  · rw [wrap_of _ ⟨by omega, by omega⟩]
    exact ⟨_, rfl, by omega, by omega⟩
  · exact ⟨_, rfl, by omega, by omega⟩

theorem sane_at (k : Nat) (h : 10 ≤ k) : tilefarmlaw1_sane.f k = some true :=
  at_rounds (fun k => tilefarmlaw1_sane.mono k) h (by decide +kernel)

/-- The rounded quotient c: c * y is the least multiple of y that is not less than x. -/
theorem ceil_is (x y : Int) (hx : 0 ≤ x) (hx1 : x < 1099511627776) (hy : 1 ≤ y) (k : Nat) (hk : 0 < k) :
    ∃ c, extent_Ceil.f k x y = some c ∧ 0 ≤ c ∧ c ≤ x ∧ x ≤ c * y ∧ c * y < x + y := by
  obtain ⟨k, rfl⟩ : ∃ m, k = m + 1 := ⟨k - 1, by omega⟩
  have e := Int.mul_ediv_add_emod x y
  have m0 := Int.emod_nonneg x (b := y) (by omega)
  have m1 := Int.emod_lt_of_pos x (b := y) (by omega)
  have q0 : 0 ≤ x / y := Int.ediv_nonneg hx (by omega)
  have q1 : x / y ≤ x := Int.ediv_le_self _ hx
  unfold extent_Ceil.f
  rw [if_neg (by omega), show decide (y < 1) = false from decide_eq_false (by omega)]
  simp only [extent_Ceil.j0]
  rw [if_neg (by simp), if_neg (by omega), Int.tmod_eq_emod_of_nonneg hx, Int.tdiv_eq_ediv_of_nonneg hx, wrap_of (x / y) ⟨by omega, by omega⟩]
  have ey : y * (x / y) = (x / y) * y := Int.mul_comm _ _
  by_cases h : x % y > 0
  · rw [if_pos h, wrap_of _ ⟨by omega, by omega⟩]
    have hq : x / y + 1 ≤ x := by
      by_cases h1 : y = 1
      · subst h1; omega
      · have h2 : x / y < x := by
          by_cases hx0 : x = 0
          · subst hx0; simp at h
          · exact Int.ediv_lt_self_of_pos_of_ne_one (by omega) (by omega) |> fun h => h
        omega
    refine ⟨_, rfl, by omega, hq, ?_, ?_⟩
    · rw [Int.add_mul]; omega
    · rw [Int.add_mul]; omega
  · rw [if_neg h]
    exact ⟨_, rfl, q0, q1, by omega, by omega⟩

theorem mul_is (x y z : Int) (hx : 0 ≤ x) (hy : 0 ≤ y) (hz : 0 ≤ z) (h : z ≤ 9223372036854775807) (c : x * y ≤ z) :
    extent_Mul.f x y z = some (x * y, true) := by
  have h0 : 0 ≤ x * y := Int.mul_nonneg hx hy
  unfold extent_Mul.f
  rw [if_neg (by omega), if_neg (by omega), if_neg (by omega), wrap_of (x * y) ⟨by omega, by omega⟩]
  by_cases e : x = 0
  · rw [if_pos e]
  · rw [if_neg e]
    have key : y ≤ z / x := by
      rw [Int.le_ediv_iff_mul_le (by omega), Int.mul_comm]
      exact c
    have h0 : 0 ≤ z / x := Int.ediv_nonneg hz hx
    have h1 : z / x ≤ z := Int.ediv_le_self _ hz
    rw [Int.tdiv_eq_ediv_of_nonneg hz, wrap_of _ ⟨by omega, by omega⟩, if_neg (by omega)]

theorem ExtentAligned : tilefarmlaw1_ExtentAligned.Pure := by
  intro a b _ _
  obtain ⟨x, x1, x2, x3⟩ := mod_is a 1099511627776 (by omega) (by omega)
  obtain ⟨y, y1, y2, y3⟩ := mod_is b 5000 (by omega) (by omega)
  obtain ⟨c, c1, c2, c3, c4, c5⟩ := ceil_is x (1 + y) x2 x3 (by omega) 100 (by omega)
  obtain ⟨c', d1, d2, d3, d4, d5⟩ := ceil_is x (1 + y) x2 x3 (by omega) 99 (by omega)
  obtain rfl : c = c' := by
    have : extent_Ceil.f 100 x (1 + y) = some c' := at_rounds (fun k => extent_Ceil.mono x (1 + y) k) (by omega) d1
    rw [c1] at this
    exact Option.some.inj this
  refine ⟨100, ?_⟩
  unfold tilefarmlaw1_ExtentAligned.f
  rw [x1]; simp only [Option.bind_some]
  rw [y1]; simp only [Option.bind_some]
  rw [wrap_of (1 + y) ⟨by omega, by omega⟩]
  have ha : extent_Align.f 100 x (1 + y) 1125899906842624 = some (c * (1 + y), true) := by
    unfold extent_Align.f
    rw [if_neg (by omega), show decide (1 + y < 1) = false from decide_eq_false (by omega)]
    show extent_Align.j0 (99 + 1) _ _ _ _ = _
    simp only [extent_Align.j0]
    rw [if_neg (by simp), d1]; simp only [Option.bind_some]
    rw [mul_is c (1 + y) _ c2 (by omega) (by omega) (by omega) (by omega)]; simp only [Option.bind_some]
  rw [ha]; simp only [Option.bind_some]
  rw [c1]; simp only [Option.bind_some, if_true]
  rw [if_neg (by omega), if_pos (by rw [Int.tmod_eq_emod_of_nonneg (by omega)]; exact Int.mul_emod_left c (1 + y)), if_pos c4,
    wrap_of (c * (1 + y) - x) ⟨by omega, by omega⟩, if_pos (by omega), wrap_of (c * (1 + y)) ⟨by omega, by omega⟩, if_pos rfl, sane_at 100 (by omega)]
  rfl

end Go.Proofs.Ytfbkfefidjpohaa.Pure
