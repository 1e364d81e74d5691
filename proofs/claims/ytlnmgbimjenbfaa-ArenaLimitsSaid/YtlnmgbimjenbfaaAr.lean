/- The methods of the arenas, the program's and the reference's, walked. Printed by gen_ar.py. -/
import Derived.Test.YtlnmgbimjenbfaaPArenaFollowsx2
import Derived.StillTailTactics
import Derived.Deep.RegionLaw
namespace Go.Proofs.Ytlnmgbimjenbfaa.Ar
open Go.RowKit Go.Proofs.YtlnmgbimjenbfaaW.PrintWords Go.Proofs.YtlnmgbimjenbfaaW.PrintLast Go.Proofs.YtlnmgbimjenbfaaW.PrintMore
open Go.Proofs.Ytlnmgbimjenbfaa.PArenaFollows
set_option linter.unusedVariables false

theorem wrap_of (n : Int) (h : -9223372036854775808 ≤ n ∧ n ≤ 9223372036854775807) : wrap64 n = n := by
  unfold wrap64
  omega

theorem info3 : (Try.prog.info? 3).map (fun i => (i.zero, i.size, i.bytes)) = some (some (.int .i64 0), 1, 8) := by kernel_rfl

/-- The aligned number, or none. -/
def ceilM (x y : Int) : Int := if x % y > 0 then (x / y + 1) * y else x / y * y
def alignR (x y z : Int) : Int × Bool := if ceilM x y ≤ z then (ceilM x y, true) else (0, false)

theorem ceilM_is (x y : Int) (hx : 0 ≤ x) (hx1 : x < 1099511627776) (hy : 1 ≤ y) :
    ∃ c, ceilM x y = c * y ∧ 0 ≤ c ∧ c ≤ x ∧ x ≤ c * y ∧ c * y < x + y ∧ (c = if x % y > 0 then x / y + 1 else x / y) := by
  have e := Int.mul_ediv_add_emod x y
  have m0 := Int.emod_nonneg x (b := y) (by omega)
  have m1 := Int.emod_lt_of_pos x (b := y) (by omega)
  have q0 : 0 ≤ x / y := Int.ediv_nonneg hx (by omega)
  have q1 : x / y ≤ x := Int.ediv_le_self _ hx
  have ey : y * (x / y) = (x / y) * y := Int.mul_comm _ _
  unfold ceilM
  by_cases h : x % y > 0
  · rw [if_pos h, if_pos h]
    have hq : x / y + 1 ≤ x := by
      by_cases h1 : y = 1
      · subst h1; omega
      · have h2 : x / y < x := by
          by_cases hx0 : x = 0
          · subst hx0; simp at h
          · exact Int.ediv_lt_self_of_pos_of_ne_one (by omega) (by omega) |> fun h => h
        omega
    refine ⟨_, rfl, by omega, hq, ?_, ?_, rfl⟩
    · rw [Int.add_mul]; omega
    · rw [Int.add_mul]; omega
  · rw [if_neg h, if_neg h]
    exact ⟨_, rfl, q0, q1, by omega, by omega, rfl⟩

theorem extent_ceil (x y : Int) (hx : 0 ≤ x) (hx1 : x < 1099511627776) (hy : 1 ≤ y) (c : Int) (hc : c = if x % y > 0 then x / y + 1 else x / y) (hc1 : c ≤ x) :
    extent_Ceil.f 1 x y = some c := by
  have q0 : 0 ≤ x / y := Int.ediv_nonneg hx (by omega)
  have q1 : x / y ≤ x := Int.ediv_le_self _ hx
  unfold extent_Ceil.f
  rw [if_neg (by omega), show decide (y < 1) = false from decide_eq_false (by omega)]
  simp only [extent_Ceil.j0]
  rw [if_neg (by simp), if_neg (by omega), Int.tmod_eq_emod_of_nonneg hx, Int.tdiv_eq_ediv_of_nonneg hx, wrap_of (x / y) ⟨by omega, by omega⟩]
  by_cases h : x % y > 0
  · rw [if_pos h] at hc ⊢
    rw [wrap_of _ ⟨by omega, by omega⟩, hc]
  · rw [if_neg h] at hc ⊢
    rw [hc]

theorem extent_mul (x y z : Int) (hx : 0 ≤ x) (hy : 1 ≤ y) (hz : 0 ≤ z) (h : z ≤ 1099511627776) (hxy : x * y ≤ 1099511627776) :
    extent_Mul.f x y z = some (if x * y ≤ z then (x * y, true) else (0, false)) := by
  have h0 : 0 ≤ x * y := Int.mul_nonneg hx (by omega)
  unfold extent_Mul.f
  rw [if_neg (by omega), if_neg (by omega), if_neg (by omega), wrap_of (x * y) ⟨by omega, by omega⟩]
  by_cases e : x = 0
  · rw [if_pos e, if_pos (by rw [e]; omega)]
  · rw [if_neg e]
    have h0 : 0 ≤ z / x := Int.ediv_nonneg hz hx
    have h1 : z / x ≤ z := Int.ediv_le_self _ hz
    have key : y ≤ z / x ↔ x * y ≤ z := by rw [Int.le_ediv_iff_mul_le (by omega), Int.mul_comm]
    rw [Int.tdiv_eq_ediv_of_nonneg hz, wrap_of _ ⟨by omega, by omega⟩]
    by_cases c : x * y ≤ z
    · rw [if_pos c, if_neg (by have := key.2 c; omega)]
    · rw [if_neg c, if_pos (by have : ¬ y ≤ z / x := fun h => c (key.1 h); omega)]

theorem extent_align (x y z : Int) (hx : 0 ≤ x) (hx1 : x < 549755813888) (hy : 1 ≤ y) (hy1 : y < 549755813888) (hz : 0 ≤ z) (hz1 : z < 1099511627776) :
    extent_Align.f 2 x y z = some (alignR x y z) := by
  obtain ⟨c, c0, c1, c2, c3, c4, c5⟩ := ceilM_is x y hx (by omega) hy
  unfold extent_Align.f
  rw [if_neg (by omega), show decide (y < 1) = false from decide_eq_false (by omega)]
  simp only [extent_Align.j0]
  rw [if_neg (by simp), extent_ceil x y hx (by omega) hy c c5 c2]; simp only [Option.bind_some]
  rw [extent_mul c y z c1 hy hz (by omega) (by omega)]; simp only [Option.bind_some]
  unfold alignR
  rw [c0]

theorem tilefarmref1_ceil (x y : Int) (hx : 0 ≤ x) (hx1 : x < 1099511627776) (hy : 1 ≤ y) (c : Int) (hc : c = if x % y > 0 then x / y + 1 else x / y) (hc1 : c ≤ x) :
    tilefarmref1_Ceil.f 1 x y = some c := by
  have q0 : 0 ≤ x / y := Int.ediv_nonneg hx (by omega)
  have q1 : x / y ≤ x := Int.ediv_le_self _ hx
  unfold tilefarmref1_Ceil.f
  rw [if_neg (by omega), show decide (y < 1) = false from decide_eq_false (by omega)]
  simp only [tilefarmref1_Ceil.j0]
  rw [if_neg (by simp), if_neg (by omega), Int.tmod_eq_emod_of_nonneg hx, Int.tdiv_eq_ediv_of_nonneg hx, wrap_of (x / y) ⟨by omega, by omega⟩]
  by_cases h : x % y > 0
  · rw [if_pos h] at hc ⊢
    rw [wrap_of _ ⟨by omega, by omega⟩, hc]
  · rw [if_neg h] at hc ⊢
    rw [hc]

theorem tilefarmref1_mul (x y z : Int) (hx : 0 ≤ x) (hy : 1 ≤ y) (hz : 0 ≤ z) (h : z ≤ 1099511627776) (hxy : x * y ≤ 1099511627776) :
    tilefarmref1_Mul.f x y z = some (if x * y ≤ z then (x * y, true) else (0, false)) := by
  have h0 : 0 ≤ x * y := Int.mul_nonneg hx (by omega)
  unfold tilefarmref1_Mul.f
  rw [if_neg (by omega), if_neg (by omega), if_neg (by omega), if_pos (by omega), if_neg (by omega), wrap_of (x * y) ⟨by omega, by omega⟩]
  have h0 : 0 ≤ z / y := Int.ediv_nonneg hz (by omega)
  have h1 : z / y ≤ z := Int.ediv_le_self _ hz
  have key : x ≤ z / y ↔ x * y ≤ z := by rw [Int.le_ediv_iff_mul_le (by omega)]
  rw [Int.tdiv_eq_ediv_of_nonneg hz, wrap_of _ ⟨by omega, by omega⟩]
  by_cases c : x * y ≤ z
  · rw [if_pos c, if_neg (by have := key.2 c; omega)]
  · rw [if_neg c, if_pos (by have : ¬ x ≤ z / y := fun h => c (key.1 h); omega)]

theorem tilefarmref1_align (x y z : Int) (hx : 0 ≤ x) (hx1 : x < 549755813888) (hy : 1 ≤ y) (hy1 : y < 549755813888) (hz : 0 ≤ z) (hz1 : z < 1099511627776) :
    tilefarmref1_Align.f 2 x y z = some (alignR x y z) := by
  obtain ⟨c, c0, c1, c2, c3, c4, c5⟩ := ceilM_is x y hx (by omega) hy
  unfold tilefarmref1_Align.f
  rw [if_neg (by omega), show decide (y < 1) = false from decide_eq_false (by omega)]
  simp only [tilefarmref1_Align.j0]
  rw [if_neg (by simp), tilefarmref1_ceil x y hx (by omega) hy c c5 c2]; simp only [Option.bind_some]
  rw [tilefarmref1_mul c y z c1 hy hz (by omega) (by omega)]; simp only [Option.bind_some]
  unfold alignR
  rw [c0]

/-- An arena at block p, of type T: capacity c, u in use, at most h ever, the marks l; F: which blocks the marks' row may be. -/
structure Ar (T : TypeId) (w0 w : World) (p : Nat) (c u h : Int) (F : Nat → Prop) (l : List Int) : Prop where
  row : ∃ v, w.heap[p]? = some (.cells #[.int .i64 c, .int .i64 u, .int .i64 h, v] T (0, 0)) ∧ Kd.R (Kd.int .i64) 3 w w0.heap.size F v l
  pw : w0.heap.size ≤ p
  out : ¬ F p
  fresh : ∀ k, w.heap.size ≤ k → F k

section
variable {T : TypeId} {w0 w w1 : World} {p : Nat} {c u hi : Int} {F S : Nat → Prop} {l : List Int}
theorem Ar.kept (h : Ar T w0 w p c u hi F l) (hk : Kept w w1 S) (hp : ¬ S p) (hS : ∀ k, F k → ¬ S k) : Ar T w0 w1 p c u hi F l := by
  obtain ⟨v, h1, h2⟩ := h.row
  exact ⟨⟨v, blk_kept h1 hk hp, Kd.R_kept h2 hk hS⟩, h.pw, h.out, fun k hk' => h.fresh k (Nat.le_trans hk.1 hk')⟩
theorem Ar.below (h : Ar T w0 w p c u hi F l) (hb : Below w.heap.size w w1) : Ar T w0 w1 p c u hi F l :=
  h.kept (Kept.of_below hb (fun _ => False)) id (fun _ _ => id)
theorem Ar.drew (h : Ar T w0 w p c u hi F l) : Ar T w0 w.drew p c u hi F l := by
  obtain ⟨v, h1, h2⟩ := h.row
  exact ⟨⟨v, h1, Kd.R_drew h2⟩, h.pw, h.out, h.fresh⟩
theorem Ar.lt (h : Ar T w0 w p c u hi F l) : p < w.heap.size := by obtain ⟨v, h1, h2⟩ := h.row; exact blk_lt h1
theorem Ar.c1 (h : Ar T w0 w p c u hi F l) : w.cell? ⟨p, 1, none⟩ = some (.int .i64 u) := by obtain ⟨v, h1, h2⟩ := h.row; exact (blk_cell h1 1).trans rfl
theorem Ar.c2 (h : Ar T w0 w p c u hi F l) : w.cell? ⟨p, 2, none⟩ = some (.int .i64 hi) := by obtain ⟨v, h1, h2⟩ := h.row; exact (blk_cell h1 2).trans rfl
theorem Ar.c3 (h : Ar T w0 w p c u hi F l) : ∃ A n, w.cell? ⟨p, 3, none⟩ = some (.slice A l.length n) := by
  obtain ⟨v, h1, h2⟩ := h.row
  obtain ⟨A, n, rfl⟩ := Kd.R_slice h2
  exact ⟨A, n, (blk_cell h1 3).trans rfl⟩
end

/-- A new row is stored into the field. -/
theorem store_row {T : TypeId} {w0 w w1 : World} {p : Nat} {c u h : Int} {F : Nat → Prop} {l : List Int} {x v : Value} (pw : w0.heap.size ≤ p) (out : ¬ F p) (ho : w1.heap[p]? = some (.cells #[.int .i64 c, .int .i64 u, .int .i64 h, x] T (0, 0)))
    (hr : Kd.R (Kd.int .i64) 3 w1 w0.heap.size F v l) (hB : Below w0.heap.size w0 w1) (hk : Kept w w1 (fun k => k = p ∨ F k)) (fresh : ∀ k, w1.heap.size ≤ k → F k) :
    Ar T w0 (w1.setCell ⟨p, 3, none⟩ v) p c u h F l ∧ Below w0.heap.size w0 (w1.setCell ⟨p, 3, none⟩ v) ∧ Kept w (w1.setCell ⟨p, 3, none⟩ v) (fun k => k = p ∨ F k) := by
  refine ⟨⟨⟨v, by simpa using blk_set ho 3 v, Kd.R_far hr (p := ⟨p, 3, none⟩) (fun k hk e => out (by rw [← show k = p from e]; exact hk)) _⟩, pw, out, fun k hk => fresh k (by simpa [World.setCell] using hk)⟩, ?_, ?_⟩
  · exact hB.setCell (by exact pw) _
  · exact hk.setCell (.inl (.inl rfl)) _

/-- What is in use is stored into the field. -/
theorem store_used {T : TypeId} {w0 w : World} {p : Nat} {c u h : Int} {F : Nat → Prop} {l : List Int} (H : Ar T w0 w p c u h F l) (hB : Below w0.heap.size w0 w) (u' : Int) :
    Ar T w0 (w.setCell ⟨p, 1, none⟩ (.int .i64 u')) p c u' h F l ∧ Below w0.heap.size w0 (w.setCell ⟨p, 1, none⟩ (.int .i64 u')) ∧ Kept w (w.setCell ⟨p, 1, none⟩ (.int .i64 u')) (fun k => k = p ∨ F k) := by
  obtain ⟨v, h1, h2⟩ := H.row
  refine ⟨⟨⟨v, by simpa using blk_set h1 1 (.int .i64 u'), Kd.R_far h2 (p := ⟨p, 1, none⟩) (fun k hk e => H.out (by rw [← show k = p from e]; exact hk)) _⟩, H.pw, H.out, fun k hk => H.fresh k (by simpa [World.setCell] using hk)⟩, ?_, ?_⟩
  · exact hB.setCell (by exact H.pw) _
  · exact (Kept.refl w _).setCell (.inl (.inl rfl)) _
theorem store_high {T : TypeId} {w0 w : World} {p : Nat} {c u h : Int} {F : Nat → Prop} {l : List Int} (H : Ar T w0 w p c u h F l) (hB : Below w0.heap.size w0 w) (u' : Int) :
    Ar T w0 (w.setCell ⟨p, 2, none⟩ (.int .i64 u')) p c u u' F l ∧ Below w0.heap.size w0 (w.setCell ⟨p, 2, none⟩ (.int .i64 u')) ∧ Kept w (w.setCell ⟨p, 2, none⟩ (.int .i64 u')) (fun k => k = p ∨ F k) := by
  obtain ⟨v, h1, h2⟩ := H.row
  refine ⟨⟨⟨v, by simpa using blk_set h1 2 (.int .i64 u'), Kd.R_far h2 (p := ⟨p, 2, none⟩) (fun k hk e => H.out (by rw [← show k = p from e]; exact hk)) _⟩, H.pw, H.out, fun k hk => H.fresh k (by simpa [World.setCell] using hk)⟩, ?_, ?_⟩
  · exact hB.setCell (by exact H.pw) _
  · exact (Kept.refl w _).setCell (.inl (.inl rfl)) _

/-! ### What the calls answer -/
/-- Alloc: the place, the code, what is then in use, the greatest use. -/
def allocR (c u h n m : Int) : Int × Int × Int × Int :=
  if n < 1 ∨ 1048576 < n ∨ m < 1 ∨ 4096 < m then (0, 2, u, h)
  else if (alignR u m c).2 = true ∧ n ≤ c - (alignR u m c).1 then ((alignR u m c).1, 0, (alignR u m c).1 + n, max h ((alignR u m c).1 + n))
  else (0, 19, u, h)


/-! ### Side A: the program -/
set_option maxHeartbeats 1000000 in
set_option maxRecDepth 100000 in
theorem a_new_bad (c : Int) (h : c < 0 ∨ 1048576 < c) (w : World) : Calls Try.prog 8 #[.int .i64 c] w fun e w' => e = .returned (.tuple #[.pointer none, .int .i64 2]) ∧ w = w' := by
  by_cases h1 : c < 0
  · go_enter Try.func8, Try.ntmps8
    go_wp2_with fail
    go_ret2
    exact ⟨rfl, rfl⟩
  · have h2 : 1048576 < c := by omega
    have h3 : decide (c < 0) = false := decide_eq_false h1
    go_enter Try.func8, Try.ntmps8
    go_wp2_with fail
    go_ret2
    exact ⟨rfl, rfl⟩

set_option maxHeartbeats 1000000 in
set_option maxRecDepth 100000 in
theorem a_new_ok {w0 w : World} (c : Int) (h1 : 0 ≤ c) (h2 : c ≤ 1048576) (hB : Below w0.heap.size w0 w) : Calls Try.prog 8 #[.int .i64 c] w fun e w' =>
    ∃ p, e = .returned (.tuple #[.pointer (some ⟨p, 0, none⟩), .int .i64 0]) ∧ Ar 46 w0 w' p c 0 0 (fun k => k ≠ p ∧ w.heap.size ≤ k) [] ∧ w.heap.size ≤ p ∧ Below w.heap.size w w' := by
  have h3 : decide (c < 0) = false := decide_eq_false (by omega)
  have h4 : decide (c > 1048576) = false := decide_eq_false (by omega)
  go_enter Try.func8, Try.ntmps8
  go_wp2_with fail
  go_ret2
  have o1 := blk_new w (.cells #[.int .i64 c, .int .i64 0, .int .i64 0, .slice none 0 0] 46)
  have hw := hB.size
  exact ⟨_, rfl, ⟨⟨_, o1, Kd.R_nil _ _ _ _ _⟩, hw, fun h => h.1 rfl, fun k hk => by simp at hk; omega⟩, by omega, below_alloc (Below.refl _ _) _⟩

set_option maxHeartbeats 1000000 in
set_option maxRecDepth 100000 in
theorem a_used_nil (w : World) : Calls Try.prog 11 #[.pointer none] w fun e w' => e = .returned (.int .i64 0) ∧ w = w' := by
  go_enter Try.func11, Try.ntmps11
  go_wp2_with fail
  go_ret
  exact ⟨rfl, rfl⟩
set_option maxHeartbeats 1000000 in
set_option maxRecDepth 100000 in
theorem a_used {w0 w : World} {p : Nat} {c u h : Int} {F : Nat → Prop} {l : List Int} (H : Ar 46 w0 w p c u h F l) : Calls Try.prog 11 #[.pointer (some ⟨p, 0, none⟩)] w fun e w' => e = .returned (.int .i64 u) ∧ w = w' := by
  have hc := H.c1
  clear H
  go_enter Try.func11, Try.ntmps11
  go_wp2_with fail
  go_ret
  exact ⟨rfl, rfl⟩
set_option maxHeartbeats 1000000 in
set_option maxRecDepth 100000 in
theorem a_high_nil (w : World) : Calls Try.prog 15 #[.pointer none] w fun e w' => e = .returned (.int .i64 0) ∧ w = w' := by
  go_enter Try.func15, Try.ntmps15
  go_wp2_with fail
  go_ret
  exact ⟨rfl, rfl⟩
set_option maxHeartbeats 1000000 in
set_option maxRecDepth 100000 in
theorem a_high {w0 w : World} {p : Nat} {c u h : Int} {F : Nat → Prop} {l : List Int} (H : Ar 46 w0 w p c u h F l) : Calls Try.prog 15 #[.pointer (some ⟨p, 0, none⟩)] w fun e w' => e = .returned (.int .i64 h) ∧ w = w' := by
  have hc := H.c2
  clear H
  go_enter Try.func15, Try.ntmps15
  go_wp2_with fail
  go_ret
  exact ⟨rfl, rfl⟩
set_option maxHeartbeats 1000000 in
set_option maxRecDepth 100000 in
theorem a_marks_nil (w : World) : Calls Try.prog 12 #[.pointer none] w fun e w' => e = .returned (.int .i64 0) ∧ w = w' := by
  go_enter Try.func12, Try.ntmps12
  go_wp2_with fail
  go_ret
  exact ⟨rfl, rfl⟩
set_option maxHeartbeats 1000000 in
set_option maxRecDepth 100000 in
theorem a_marks {w0 w : World} {p : Nat} {c u h : Int} {F : Nat → Prop} {l : List Int} (H : Ar 46 w0 w p c u h F l) : Calls Try.prog 12 #[.pointer (some ⟨p, 0, none⟩)] w fun e w' => e = .returned (.int .i64 l.length) ∧ w = w' := by
  obtain ⟨A, n, hc⟩ := H.c3
  clear H
  go_enter Try.func12, Try.ntmps12
  go_wp2_with fail
  go_ret
  exact ⟨rfl, rfl⟩
set_option maxHeartbeats 1000000 in
set_option maxRecDepth 100000 in
theorem a_reset_nil (w : World) : Calls Try.prog 23 #[.pointer none] w fun e w' => e = .returned (.tuple #[]) ∧ w = w' := by
  go_enter Try.func23, Try.ntmps23
  go_wp2_with fail
  go_end0
  exact ⟨rfl, rfl⟩
set_option maxHeartbeats 1000000 in
set_option maxRecDepth 100000 in
theorem a_reset {w0 w : World} {p : Nat} {c u h : Int} {F : Nat → Prop} {l : List Int} (H : Ar 46 w0 w p c u h F l) (hB : Below w0.heap.size w0 w) : Calls Try.prog 23 #[.pointer (some ⟨p, 0, none⟩)] w fun e w' => e = .returned (.tuple #[]) ∧
    Ar 46 w0 w' p c 0 h F [] ∧ Below w0.heap.size w0 w' ∧ Kept w w' (fun k => k = p ∨ F k) := by
  obtain ⟨v, h1, h2⟩ := H.row
  have hp := blk_lt h1
  have c1 := (blk_cell h1 1).trans rfl
  have c3 := (blk_cell h1 3).trans rfl
  have f1 := blk_frozen h1 1
  have f3 := blk_frozen h1 3
  have HH := Aside0.mk H
  have H1 := Aside0.mk h1
  clear h1 h2 H
  go_enter Try.func23, Try.ntmps23
  go_wp2_with fail
  obtain ⟨q, b, k⟩ := store_used HH.out hB 0
  have o1 := blk_set H1.out 1 (.int .i64 0)
  obtain ⟨e1, e2, e3⟩ := store_row q.pw q.out (by simpa using o1) (Kd.R_nil (Kd.int .i64) 3 _ _ _) b k (fun i hi => q.fresh i hi)
  go_end0
  exact ⟨rfl, e1, e2, e3⟩

set_option maxHeartbeats 1000000 in
set_option maxRecDepth 100000 in
theorem a_mark_nil (w : World) : Calls Try.prog 13 #[.pointer none] w fun e w' => e = .returned (.int .i64 20) ∧ w = w' := by
  go_enter Try.func13, Try.ntmps13
  go_wp2_with fail
  go_ret
  exact ⟨rfl, rfl⟩
set_option maxHeartbeats 1000000 in
set_option maxRecDepth 100000 in
theorem a_mark_full {w0 w : World} {p : Nat} {c u h : Int} {F : Nat → Prop} {l : List Int} (H : Ar 46 w0 w p c u h F l) (hl : 1024 ≤ l.length) : Calls Try.prog 13 #[.pointer (some ⟨p, 0, none⟩)] w fun e w' => e = .returned (.int .i64 19) ∧ w = w' := by
  obtain ⟨A, n, hc⟩ := H.c3
  clear H
  go_enter Try.func13, Try.ntmps13
  go_wp2_with fail
  go_ret
  exact ⟨rfl, rfl⟩
set_option maxHeartbeats 1000000 in
set_option maxRecDepth 100000 in
theorem a_mark {w0 w : World} {p : Nat} {c u hi : Int} {F : Nat → Prop} {l : List Int} (h : Ar 46 w0 w p c u hi F l) (hB : Below w0.heap.size w0 w) (hl : l.length < 1024) : Calls Try.prog 13 #[.pointer (some ⟨p, 0, none⟩)] w fun e w' => e = .returned (.int .i64 0) ∧
    Ar 46 w0 w' p c u hi F (l ++ [u]) ∧ Below w0.heap.size w0 w' ∧ Kept w w' (fun k => k = p ∨ F k) := by
  obtain ⟨v, h1, h2⟩ := h.row
  obtain ⟨A, n, rfl⟩ := Kd.R_slice h2
  have hp := blk_lt h1
  have c1 := (blk_cell h1 1).trans rfl
  have c3 := (blk_cell h1 3).trans rfl
  have hs := hB.size
  have c3' := (Below.cell (below_alloc (Below.refl w.heap.size w) (.cells #[.int .i64 u] 3)) (p := ⟨p, 3, none⟩) hp).trans c3
  have OB := Aside0.mk h1
  have NE : Aside0 (some p ≠ (Value.slice A l.length n).ownBlock) := ⟨fun e => h.out (h2.1 p e.symm)⟩
  have H2 := Aside0.mk h2
  clear h1 h2
  go_enter Try.func13, Try.ntmps13
  go_wp2_with fail
  go_region_law (first | (refine Kd.R_append_step (Kd.int .i64) (W := w.drew) w0.heap.size (by rfl) _ _ 22 3 (.int .i64 0) 8 (by rfl) Try.underlying22 info3 (by rfl) (by decide) (by decide) (.slice A l.length n) l u [.int .i64 u] F (fun _ => False) (by rfl) (by rfl) (by rfl) (fun _ h => h.elim) (fun k hk => h.fresh k hk) (Kd.R_drew H2.out) (below_drew hB) hs (by omega) ?_; intro v1 w1 hown hb1 hg1 hat; obtain ⟨A1, n1, rfl⟩ := Kd.R_slice hown; have o1 := blk_grown (blk_drew OB.out) hg1 NE.out; have O1 := Aside0.mk o1; have q1 := (blk_cell o1 3).trans rfl; have qf := blk_frozen o1 3; clear o1))
  all_goals
    go_wp2_with fail
    go_ret
    have kW : Kept w w1 (fun k => k = p ∨ F k) := Kept.of_grown hg1 ((Kept.refl w _).drew) (fun k hk => .inl (.inr (H2.out.1 k hk)))
    obtain ⟨e1, e2, e3⟩ := store_row h.pw h.out O1.out hown hb1 kW (fun k hk => h.fresh k (Nat.le_trans kW.1 hk))
    rw [List.length_append, List.length_singleton] at e1 e2 e3
    exact ⟨rfl, e1, e2, e3⟩

/-! ### Side B: the reference -/
set_option maxHeartbeats 1000000 in
set_option maxRecDepth 100000 in
theorem b_new_bad (c : Int) (h : c < 0 ∨ 1048576 < c) (w : World) : Calls Try.prog 18 #[.int .i64 c] w fun e w' => e = .returned (.tuple #[.pointer none, .int .i64 2]) ∧ w = w' := by
  by_cases h1 : c < 0
  · go_enter Try.func18, Try.ntmps18
    go_wp2_with fail
    go_ret2
    exact ⟨rfl, rfl⟩
  · have h2 : 1048576 < c := by omega
    have h3 : decide (c < 0) = false := decide_eq_false h1
    go_enter Try.func18, Try.ntmps18
    go_wp2_with fail
    go_ret2
    exact ⟨rfl, rfl⟩

set_option maxHeartbeats 1000000 in
set_option maxRecDepth 100000 in
theorem b_new_ok {w0 w : World} (c : Int) (h1 : 0 ≤ c) (h2 : c ≤ 1048576) (hB : Below w0.heap.size w0 w) : Calls Try.prog 18 #[.int .i64 c] w fun e w' =>
    ∃ p, e = .returned (.tuple #[.pointer (some ⟨p, 0, none⟩), .int .i64 0]) ∧ Ar 50 w0 w' p c 0 0 (fun k => k ≠ p ∧ w.heap.size ≤ k) [] ∧ w.heap.size ≤ p ∧ Below w.heap.size w w' := by
  have h3 : decide (c < 0) = false := decide_eq_false (by omega)
  have h4 : decide (c > 1048576) = false := decide_eq_false (by omega)
  go_enter Try.func18, Try.ntmps18
  go_wp2_with fail
  go_ret2
  have o1 := blk_new w (.cells #[.int .i64 c, .int .i64 0, .int .i64 0, .slice none 0 0] 50)
  have hw := hB.size
  exact ⟨_, rfl, ⟨⟨_, o1, Kd.R_nil _ _ _ _ _⟩, hw, fun h => h.1 rfl, fun k hk => by simp at hk; omega⟩, by omega, below_alloc (Below.refl _ _) _⟩

set_option maxHeartbeats 1000000 in
set_option maxRecDepth 100000 in
theorem b_used_nil (w : World) : Calls Try.prog 25 #[.pointer none] w fun e w' => e = .returned (.int .i64 0) ∧ w = w' := by
  go_enter Try.func25, Try.ntmps25
  go_wp2_with fail
  go_ret
  exact ⟨rfl, rfl⟩
set_option maxHeartbeats 1000000 in
set_option maxRecDepth 100000 in
theorem b_used {w0 w : World} {p : Nat} {c u h : Int} {F : Nat → Prop} {l : List Int} (H : Ar 50 w0 w p c u h F l) : Calls Try.prog 25 #[.pointer (some ⟨p, 0, none⟩)] w fun e w' => e = .returned (.int .i64 u) ∧ w = w' := by
  have hc := H.c1
  clear H
  go_enter Try.func25, Try.ntmps25
  go_wp2_with fail
  go_ret
  exact ⟨rfl, rfl⟩
set_option maxHeartbeats 1000000 in
set_option maxRecDepth 100000 in
theorem b_high_nil (w : World) : Calls Try.prog 26 #[.pointer none] w fun e w' => e = .returned (.int .i64 0) ∧ w = w' := by
  go_enter Try.func26, Try.ntmps26
  go_wp2_with fail
  go_ret
  exact ⟨rfl, rfl⟩
set_option maxHeartbeats 1000000 in
set_option maxRecDepth 100000 in
theorem b_high {w0 w : World} {p : Nat} {c u h : Int} {F : Nat → Prop} {l : List Int} (H : Ar 50 w0 w p c u h F l) : Calls Try.prog 26 #[.pointer (some ⟨p, 0, none⟩)] w fun e w' => e = .returned (.int .i64 h) ∧ w = w' := by
  have hc := H.c2
  clear H
  go_enter Try.func26, Try.ntmps26
  go_wp2_with fail
  go_ret
  exact ⟨rfl, rfl⟩
set_option maxHeartbeats 1000000 in
set_option maxRecDepth 100000 in
theorem b_marks_nil (w : World) : Calls Try.prog 27 #[.pointer none] w fun e w' => e = .returned (.int .i64 0) ∧ w = w' := by
  go_enter Try.func27, Try.ntmps27
  go_wp2_with fail
  go_ret
  exact ⟨rfl, rfl⟩
set_option maxHeartbeats 1000000 in
set_option maxRecDepth 100000 in
theorem b_marks {w0 w : World} {p : Nat} {c u h : Int} {F : Nat → Prop} {l : List Int} (H : Ar 50 w0 w p c u h F l) : Calls Try.prog 27 #[.pointer (some ⟨p, 0, none⟩)] w fun e w' => e = .returned (.int .i64 l.length) ∧ w = w' := by
  obtain ⟨A, n, hc⟩ := H.c3
  clear H
  go_enter Try.func27, Try.ntmps27
  go_wp2_with fail
  go_ret
  exact ⟨rfl, rfl⟩
set_option maxHeartbeats 1000000 in
set_option maxRecDepth 100000 in
theorem b_reset_nil (w : World) : Calls Try.prog 24 #[.pointer none] w fun e w' => e = .returned (.tuple #[]) ∧ w = w' := by
  go_enter Try.func24, Try.ntmps24
  go_wp2_with fail
  go_end0
  exact ⟨rfl, rfl⟩
set_option maxHeartbeats 1000000 in
set_option maxRecDepth 100000 in
theorem b_reset {w0 w : World} {p : Nat} {c u h : Int} {F : Nat → Prop} {l : List Int} (H : Ar 50 w0 w p c u h F l) (hB : Below w0.heap.size w0 w) : Calls Try.prog 24 #[.pointer (some ⟨p, 0, none⟩)] w fun e w' => e = .returned (.tuple #[]) ∧
    Ar 50 w0 w' p c 0 h F [] ∧ Below w0.heap.size w0 w' ∧ Kept w w' (fun k => k = p ∨ F k) := by
  obtain ⟨v, h1, h2⟩ := H.row
  have hp := blk_lt h1
  have c1 := (blk_cell h1 1).trans rfl
  have c3 := (blk_cell h1 3).trans rfl
  have f1 := blk_frozen h1 1
  have f3 := blk_frozen h1 3
  have HH := Aside0.mk H
  have H1 := Aside0.mk h1
  clear h1 h2 H
  go_enter Try.func24, Try.ntmps24
  go_wp2_with fail
  obtain ⟨q, b, k⟩ := store_used HH.out hB 0
  have o1 := blk_set H1.out 1 (.int .i64 0)
  obtain ⟨e1, e2, e3⟩ := store_row q.pw q.out (by simpa using o1) (Kd.R_nil (Kd.int .i64) 3 _ _ _) b k (fun i hi => q.fresh i hi)
  go_end0
  exact ⟨rfl, e1, e2, e3⟩

set_option maxHeartbeats 1000000 in
set_option maxRecDepth 100000 in
theorem b_mark_nil (w : World) : Calls Try.prog 21 #[.pointer none] w fun e w' => e = .returned (.int .i64 20) ∧ w = w' := by
  go_enter Try.func21, Try.ntmps21
  go_wp2_with fail
  go_ret
  exact ⟨rfl, rfl⟩
set_option maxHeartbeats 1000000 in
set_option maxRecDepth 100000 in
theorem b_mark_full {w0 w : World} {p : Nat} {c u h : Int} {F : Nat → Prop} {l : List Int} (H : Ar 50 w0 w p c u h F l) (hl : 1024 ≤ l.length) : Calls Try.prog 21 #[.pointer (some ⟨p, 0, none⟩)] w fun e w' => e = .returned (.int .i64 19) ∧ w = w' := by
  obtain ⟨A, n, hc⟩ := H.c3
  clear H
  go_enter Try.func21, Try.ntmps21
  go_wp2_with fail
  go_ret
  exact ⟨rfl, rfl⟩
set_option maxHeartbeats 1000000 in
set_option maxRecDepth 100000 in
theorem b_mark {w0 w : World} {p : Nat} {c u hi : Int} {F : Nat → Prop} {l : List Int} (h : Ar 50 w0 w p c u hi F l) (hB : Below w0.heap.size w0 w) (hl : l.length < 1024) : Calls Try.prog 21 #[.pointer (some ⟨p, 0, none⟩)] w fun e w' => e = .returned (.int .i64 0) ∧
    Ar 50 w0 w' p c u hi F (l ++ [u]) ∧ Below w0.heap.size w0 w' ∧ Kept w w' (fun k => k = p ∨ F k) := by
  obtain ⟨v, h1, h2⟩ := h.row
  obtain ⟨A, n, rfl⟩ := Kd.R_slice h2
  have hp := blk_lt h1
  have c1 := (blk_cell h1 1).trans rfl
  have c3 := (blk_cell h1 3).trans rfl
  have hs := hB.size
  have c3' := (Below.cell (below_alloc (Below.refl w.heap.size w) (.cells #[.int .i64 u] 3)) (p := ⟨p, 3, none⟩) hp).trans c3
  have OB := Aside0.mk h1
  have NE : Aside0 (some p ≠ (Value.slice A l.length n).ownBlock) := ⟨fun e => h.out (h2.1 p e.symm)⟩
  have H2 := Aside0.mk h2
  clear h1 h2
  go_enter Try.func21, Try.ntmps21
  go_wp2_with fail
  go_region_law (first | (refine Kd.R_append_step (Kd.int .i64) (W := w.drew) w0.heap.size (by rfl) _ _ 22 3 (.int .i64 0) 8 (by rfl) Try.underlying22 info3 (by rfl) (by decide) (by decide) (.slice A l.length n) l u [.int .i64 u] F (fun _ => False) (by rfl) (by rfl) (by rfl) (fun _ h => h.elim) (fun k hk => h.fresh k hk) (Kd.R_drew H2.out) (below_drew hB) hs (by omega) ?_; intro v1 w1 hown hb1 hg1 hat; obtain ⟨A1, n1, rfl⟩ := Kd.R_slice hown; have o1 := blk_grown (blk_drew OB.out) hg1 NE.out; have O1 := Aside0.mk o1; have q1 := (blk_cell o1 3).trans rfl; have qf := blk_frozen o1 3; clear o1))
  all_goals
    go_wp2_with fail
    go_ret
    have kW : Kept w w1 (fun k => k = p ∨ F k) := Kept.of_grown hg1 ((Kept.refl w _).drew) (fun k hk => .inl (.inr (H2.out.1 k hk)))
    obtain ⟨e1, e2, e3⟩ := store_row h.pw h.out O1.out hown hb1 kW (fun k hk => h.fresh k (Nat.le_trans kW.1 hk))
    rw [List.length_append, List.length_singleton] at e1 e2 e3
    exact ⟨rfl, e1, e2, e3⟩

end Go.Proofs.Ytlnmgbimjenbfaa.Ar
