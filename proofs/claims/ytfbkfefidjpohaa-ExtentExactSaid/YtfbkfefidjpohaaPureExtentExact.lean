/- 'ExtentExact' returns true for all integers: an accepted product, divided by one factor, gives the other one; products commute; a greater limit accepts as well. No conditions. -/
import Derived.Test.YtfbkfefidjpohaaPExtentExactx2
namespace Go.Proofs.Ytfbkfefidjpohaa.Pure
open Go.RowKit Go.Proofs.Ytfbkfefidjpohaa.PExtentExact Go.Proofs.YtfbkfefidjpohaaW.PrintWords Go.Proofs.YtfbkfefidjpohaaW.PrintLast

theorem wrap_of (n : Int) (h : -9223372036854775808 ≤ n ∧ n ≤ 9223372036854775807) : wrap64 n = n := by
  unfold wrap64
  omega

theorem mod_is (a n : Int) (hn : 0 < n) (hb : n ≤ 4611686018427387904) : ∃ r, tilefarmgen_Mod.f a n = some r ∧ 0 ≤ r ∧ r < n := by
  have h1 := Int.tmod_lt_of_pos a hn
  have h2 : -n < Int.tmod a n := by
    have := Int.tmod_lt_of_pos (-a) hn
    rw [Int.neg_tmod] at this
    omega
  unfold tilefarmgen_Mod.f
  rw [if_neg (by omega)]
  split
  · rw [wrap_of _ ⟨by omega, by omega⟩]
    exact ⟨_, rfl, by omega, by omega⟩
  · exact ⟨_, rfl, by omega, by omega⟩

theorem sane_at (k : Nat) (h : 10 ≤ k) : tilefarmlaw1_sane.f k = some true :=
  at_rounds (fun k => tilefarmlaw1_sane.mono k) h (by decide +kernel)

theorem mul_is (x y z : Int) (hx : 0 ≤ x) (hy : 0 ≤ y) (hz : 0 ≤ z) (h : z ≤ 9223372036854775807) :
    extent_Mul.f x y z = some (if x * y ≤ z then (x * y, true) else (0, false)) := by
  have h0 : 0 ≤ x * y := Int.mul_nonneg hx hy
  unfold extent_Mul.f
  rw [if_neg (by omega), if_neg (by omega), if_neg (by omega)]
  by_cases e : x = 0
  · subst e
    rw [if_pos rfl, if_pos (by omega), wrap_of _ ⟨by omega, by omega⟩]
  · have q0 : 0 ≤ z / x := Int.ediv_nonneg hz hx
    have q1 : z / x ≤ z := Int.ediv_le_self _ hz
    rw [if_neg e, Int.tdiv_eq_ediv_of_nonneg hz, wrap_of _ ⟨by omega, by omega⟩]
    have key : x * y ≤ z ↔ y ≤ z / x := by
      rw [Int.le_ediv_iff_mul_le (by omega), Int.mul_comm]
    by_cases c : x * y ≤ z
    · have := key.1 c
      rw [if_neg (by omega), if_pos c, wrap_of _ ⟨by omega, by omega⟩]
    · have : ¬ y ≤ z / x := fun h' => c (key.2 h')
      rw [if_pos (by omega), if_neg c]

/-- The end: a sum of n and y, checked; y is taken off again. -/
theorem tail_is (y n : Int) (hy : 0 ≤ y) (hy1 : y < 1073741824) (hn : 0 ≤ n) (hn1 : n < 4611686018427387904) : tilefarmlaw1_ExtentExact.j0 50 y n false = some true := by
  show tilefarmlaw1_ExtentExact.j0 (49 + 1) _ _ _ = _
  simp only [tilefarmlaw1_ExtentExact.j0]
  rw [if_neg (by simp)]
  have hs : extent_Sum.f 49 [n, y] 4611686018427387904 = some (if n + y ≤ 4611686018427387904 then (n + y, true) else (0, false)) := by
    unfold extent_Sum.f
    rw [if_neg (by omega)]
    obtain ⟨q, hq⟩ : ∃ q : Nat, 49 = q + 1 + 1 + 1 := ⟨46, rfl⟩
    rw [hq]
    show extent_Sum.l0 (q + 1 + 1 + 1) _ _ _ 2 _ = _
    simp only [extent_Sum.l0]
    have r0 : rd [n, y] 0 = n := rfl
    have r1 : rd [n, y] 1 = y := rfl
    have w1 : wrap64 (0 + 1) = 1 := wrap_of _ ⟨by omega, by omega⟩
    have w2 : wrap64 (1 + 1) = 2 := wrap_of _ ⟨by omega, by omega⟩
    have w3 : wrap64 ((4611686018427387904 : Int) - 0) = 4611686018427387904 := wrap_of _ ⟨by omega, by omega⟩
    have w4 : wrap64 (0 + n) = n := by rw [Int.zero_add]; exact wrap_of _ ⟨by omega, by omega⟩
    have w5 : wrap64 (4611686018427387904 - n) = 4611686018427387904 - n := wrap_of _ ⟨by omega, by omega⟩
    have hl : (([n, y] : List Int).length : Int) = 2 := rfl
    rw [if_pos (by omega), if_pos (by omega), if_pos (by omega), r0, if_neg (by omega), w3, if_neg (by omega), w1, w4, if_pos (by omega), if_pos (by omega), if_pos (by omega), r1, if_neg (by omega), w5]
    by_cases c : n + y ≤ 4611686018427387904
    · rw [if_neg (by omega), w2, if_neg (by omega), if_pos c, wrap_of (n + y) ⟨by omega, by omega⟩]
    · rw [if_pos (by omega), if_neg c]
  rw [hs]; simp only [Option.bind_some]
  by_cases c : n + y ≤ 4611686018427387904
  · rw [if_pos c]
    simp only [if_true]
    rw [wrap_of (n + y - y) ⟨by omega, by omega⟩, if_pos (by omega), sane_at 49 (by omega)]; rfl
  · rw [if_neg c]
    simp only [Bool.false_eq_true, if_false]
    rw [sane_at 49 (by omega)]; rfl

theorem ExtentExact : tilefarmlaw1_ExtentExact.Pure := by
  intro a b c d _ _ _ _
  obtain ⟨x, x1, x2, x3⟩ := mod_is a 1099511627776 (by omega) (by omega)
  obtain ⟨y, y1, y2, y3⟩ := mod_is b 1073741824 (by omega) (by omega)
  obtain ⟨z, z1, z2, z3⟩ := mod_is c 4611686018427387904 (by omega) (by omega)
  obtain ⟨m, m1, m2, m3⟩ := mod_is d 2305843009213693952 (by omega) (by omega)
  have h0 : 0 ≤ x * y := Int.mul_nonneg x2 y2
  refine ⟨50, ?_⟩
  unfold tilefarmlaw1_ExtentExact.f
  rw [x1]; simp only [Option.bind_some]
  rw [y1]; simp only [Option.bind_some]
  rw [z1]; simp only [Option.bind_some]
  rw [mul_is x y z x2 y2 z2 (by omega), mul_is y x z y2 x2 z2 (by omega), m1, Int.mul_comm y x]; simp only [Option.bind_some]
  rw [wrap_of (z + m) ⟨by omega, by omega⟩, mul_is x y (z + m) x2 y2 (by omega) (by omega)]; simp only [Option.bind_some]
  by_cases e : x * y ≤ z
  · rw [if_pos e, if_pos (show x * y ≤ z + m by omega)]
    simp only [if_true, bne_self_eq_false, Bool.false_eq_true, if_false]
    rw [if_neg (by omega)]
    by_cases hy : y > 0
    · have ht : Int.tdiv (x * y) y = x := by
        rw [Int.tdiv_eq_ediv_of_nonneg h0]; exact Int.mul_ediv_cancel x (by omega)
      have hm : Int.tmod (x * y) y = 0 := by
        rw [Int.tmod_eq_emod_of_nonneg h0]; exact Int.mul_emod_left x y
      rw [if_pos hy, if_neg (by omega), ht, hm, wrap_of x ⟨by omega, by omega⟩, if_pos rfl]
      exact tail_is y (x * y) y2 y3 h0 (by omega)
    · rw [if_neg hy]
      exact tail_is y (x * y) y2 y3 h0 (by omega)
  · rw [if_neg e]
    simp only [if_true, bne_self_eq_false, Bool.false_eq_true, if_false]
    exact tail_is y 0 y2 y3 (by omega) (by omega)

end Go.Proofs.Ytfbkfefidjpohaa.Pure
