/- 'ExtentRound' returns true for all integers: rounded quotients and aligned numbers are those of the reference. No conditions. This text: the walk of the law itself (and of the reference's Align) over the printed contracts of what it calls, and the plain facts. -/
import Derived.Test.YtfbkfefidjpohaaPExtentRoundx1
namespace Go.Proofs.Ytfbkfefidjpohaa.OwnRound
open Go.RowKit Go.Proofs.Ytfbkfefidjpohaa.PExtentRound Go.Proofs.YtfbkfefidjpohaaW.PrintWords Go.Proofs.YtfbkfefidjpohaaW.PrintLast

def In64 (n : Int) : Prop := -9223372036854775808 ≤ n ∧ n ≤ 9223372036854775807

theorem wrap_of (n : Int) (h : In64 n) : wrap64 n = n := by
  unfold In64 at h
  unfold wrap64
  omega

theorem wrap_in (n : Int) : In64 (wrap64 n) := by
  unfold In64 wrap64
  omega

theorem in_of_wf {n : Int} (h : (Lit.int .i64 n).wf = true) : In64 n := by
  simp only [Lit.wf, Bool.and_eq_true, decide_eq_true_eq] at h
  simp [In64] at h ⊢
  simpa [IntKind.min, IntKind.max, IntKind.signed, IntKind.bits] using h

theorem div_in (z x : Int) (hz : 0 ≤ z) (hx : 0 ≤ x) (h : z ≤ 9223372036854775807) : wrap64 (Int.tdiv z x) = z / x := by
  rw [Int.tdiv_eq_ediv_of_nonneg hz]
  have h0 : 0 ≤ z / x := Int.ediv_nonneg hz hx
  have h1 : z / x ≤ z := Int.ediv_le_self _ hz
  exact wrap_of _ ⟨by omega, by omega⟩

/-- Which products are accepted, and with what answer. -/
theorem mul_is (x y z : Int) (hx : 0 ≤ x) (hy : 0 ≤ y) (hz : 0 ≤ z) (h : z ≤ 9223372036854775807) :
    extent_Mul.f x y z = some (if x * y ≤ z then (x * y, true) else (0, false)) := by
  have h0 : 0 ≤ x * y := Int.mul_nonneg hx hy
  unfold extent_Mul.f
  rw [if_neg (by omega), if_neg (by omega), if_neg (by omega)]
  by_cases e : x = 0
  · subst e
    rw [if_pos rfl, if_pos (by omega), wrap_of _ ⟨by omega, by omega⟩]
  · rw [if_neg e, div_in z x hz hx h]
    have key : x * y ≤ z ↔ y ≤ z / x := by
      rw [Int.le_ediv_iff_mul_le (by omega), Int.mul_comm]
    by_cases c : x * y ≤ z
    · have := key.1 c
      rw [if_neg (by omega), if_pos c, wrap_of _ ⟨by omega, by omega⟩]
    · have : ¬ y ≤ z / x := fun h' => c (key.2 h')
      rw [if_pos (by omega), if_neg c]

theorem ref_is (x y z : Int) (hx : 0 ≤ x) (hy : 0 ≤ y) (hz : 0 ≤ z) (h : z ≤ 9223372036854775807) :
    tilefarmref1_Mul.f x y z = some (if x * y ≤ z then (x * y, true) else (0, false)) := by
  have h0 : 0 ≤ x * y := Int.mul_nonneg hx hy
  unfold tilefarmref1_Mul.f
  rw [if_neg (by omega), if_neg (by omega), if_neg (by omega)]
  by_cases e : y > 0
  · rw [if_pos e, if_neg (by omega), div_in z y hz hy h]
    have key : x * y ≤ z ↔ x ≤ z / y := by
      rw [Int.le_ediv_iff_mul_le e]
    by_cases c : x * y ≤ z
    · have := key.1 c
      rw [if_neg (by omega), if_pos c, wrap_of _ ⟨by omega, by omega⟩]
    · have : ¬ x ≤ z / y := fun h' => c (key.2 h')
      rw [if_pos (by omega), if_neg c]
  · obtain rfl : y = 0 := by omega
    rw [if_neg e, if_pos (by omega), wrap_of _ ⟨by omega, by omega⟩]

theorem mul_same (x y z : Int) (h : In64 z) : ∃ r, extent_Mul.f x y z = some r ∧ tilefarmref1_Mul.f x y z = some r := by
  by_cases a : x < 0
  · exact ⟨(0, false), by unfold extent_Mul.f; rw [if_pos a], by unfold tilefarmref1_Mul.f; rw [if_pos a]⟩
  by_cases b : y < 0
  · exact ⟨(0, false), by unfold extent_Mul.f; rw [if_neg a, if_pos b], by unfold tilefarmref1_Mul.f; rw [if_neg a, if_pos b]⟩
  by_cases c : z < 0
  · exact ⟨(0, false), by unfold extent_Mul.f; rw [if_neg a, if_neg b, if_pos c], by unfold tilefarmref1_Mul.f; rw [if_neg a, if_neg b, if_pos c]⟩
  exact ⟨_, mul_is x y z (by omega) (by omega) (by omega) h.2, ref_is x y z (by omega) (by omega) (by omega) h.2⟩

theorem mod_in (a n : Int) (hn : 0 < n) (hb : n ≤ 9223372036854775807) : ∃ r, tilefarmgen_Mod.f a n = some r ∧ In64 r := by
  have h1 := Int.tmod_lt_of_pos a hn
  have h2 : -n < Int.tmod a n := by
    have := Int.tmod_lt_of_pos (-a) hn
    rw [Int.neg_tmod] at this
    omega
  unfold tilefarmgen_Mod.f
  rw [if_neg (by omega)]
  split
  · exact ⟨_, rfl, wrap_in _⟩
  · exact ⟨_, rfl, by omega, by omega⟩

theorem near_in (a : Int) (h : In64 a) : ∃ l, tilefarmlaw1_near.f a = some l ∧ l.length = 4 ∧ ∀ i, In64 (rd l i) := by
  obtain ⟨r, hr, r1⟩ := mod_in a 100 (by omega) (by omega)
  obtain ⟨s, hs, s1⟩ := mod_in a 4294967296 (by omega) (by omega)
  refine ⟨[a, r, s, -1], ?_, rfl, fun i => ?_⟩
  · unfold tilefarmlaw1_near.f
    rw [hr]; simp only [Option.bind_some]
    rw [hs]; simp only [Option.bind_some]
  · unfold rd
    have m1 : In64 (-1) := ⟨by omega, by omega⟩
    have m0 : In64 0 := ⟨by omega, by omega⟩
    match i.toNat with
    | 0 => exact h
    | 1 => exact r1
    | 2 => exact s1
    | 3 => exact m1
    | n + 4 => exact m0

theorem sane_at (k : Nat) (h : 10 ≤ k) : tilefarmlaw1_sane.f k = some true :=
  at_rounds (fun k => tilefarmlaw1_sane.mono k) h (by decide +kernel)

/-- A slice of four numbers, cell by cell. -/
def Row4 (w : World) (v : Value) (x : List Int) : Prop :=
  ∃ g c, v = .slice (some ⟨g, 0, none⟩) 4 c ∧ g < w.heap.size ∧ ∀ i : Nat, i < 4 → w.cell? ⟨g, i, none⟩ = some (.int .i64 (rd x i))

theorem row4 {w : World} {base : Nat} {ok : Nat → Prop} {v : Value} {x : List Int} (h : Kd.R (Kd.int .i64) 3 w base ok v x) (hl : x.length = 4) : Row4 w v x := by
  obtain ⟨g, cap, rfl, _, hlt, _⟩ := Kd.R_form h (by omega)
  refine ⟨g, cap, by rw [hl], hlt, fun i hi => ?_⟩
  have h1 := (Kd.R_reads' h).2.2
  obtain ⟨ad, he, hc⟩ := Kd.at_int h1 (i : Int) (by omega) (by omega)
  injection he with he
  subst he
  rw [Int.toNat_natCast] at hc
  rw [add_plain] at hc
  exact hc

theorem row4_below {w w1 : World} {v : Value} {x : List Int} (h : Row4 w v x) (hb : Below w.heap.size w w1) : Row4 w1 v x := by
  obtain ⟨g, c, rfl, hlt, hc⟩ := h
  exact ⟨g, c, rfl, by have := hb.size; omega, fun i hi => by rw [hb.cell (p := ⟨g, i, none⟩) hlt]; exact hc i hi⟩

theorem Drawn0.cell {w w' : World} (h : Drawn0 w w') (a : Addr) : w'.cell? a = w.cell? a := by
  obtain ⟨n, rfl⟩ := h
  rfl


/-- The two Align's, side by side: either both refuse, or both hand the rounded quotient to the product. -/
theorem align_same (x y z : Int) (h : In64 z) : ∃ p q, extent_Align.f 9 x y z = some (p, q) ∧
    ((x < 0 ∧ p = 0 ∧ q = false) ∨ (0 ≤ x ∧ y < 1 ∧ p = 0 ∧ q = false) ∨ (0 ≤ x ∧ 1 ≤ y ∧ ∃ c, tilefarmref1_Ceil.f 9 x y = some c ∧ tilefarmref1_Mul.f c y z = some (p, q))) := by
  obtain ⟨k, hk⟩ : ∃ k : Nat, 9 = k + 1 := ⟨8, rfl⟩
  unfold extent_Align.f
  by_cases a : x < 0
  · refine ⟨0, false, ?_, .inl ⟨a, rfl, rfl⟩⟩
    rw [if_pos a, hk]; simp only [extent_Align.j0, if_true]
  rw [if_neg a]
  by_cases b : y < 1
  · refine ⟨0, false, ?_, .inr (.inl ⟨by omega, b, rfl, rfl⟩)⟩
    rw [hk, show decide (y < 1) = true from decide_eq_true b]; simp only [extent_Align.j0, if_true]
  · obtain ⟨k', hk'⟩ : ∃ k' : Nat, k = k' + 1 := ⟨7, by omega⟩
    obtain ⟨c, c1, c2⟩ : ∃ c, extent_Ceil.f k x y = some c ∧ tilefarmref1_Ceil.f 9 x y = some c := by
      unfold extent_Ceil.f tilefarmref1_Ceil.f
      rw [hk', hk]
      simp only [extent_Ceil.j0, tilefarmref1_Ceil.j0]
      rw [if_neg a, show decide (y < 1) = false from decide_eq_false b, if_neg (by simp), if_neg (by omega)]
      split
      · exact ⟨_, rfl, rfl⟩
      · exact ⟨_, rfl, rfl⟩
    obtain ⟨⟨p, q⟩, m1, m2⟩ := mul_same c y z h
    refine ⟨p, q, ?_, .inr (.inr ⟨by omega, by omega, c, c2, m2⟩)⟩
    rw [hk, show decide (y < 1) = false from decide_eq_false b]; simp only [extent_Align.j0]
    rw [if_neg (by simp), c1]; simp only [Option.bind_some]
    rw [m1]; simp only [Option.bind_some]

theorem ceil_same (x y : Int) : ∃ r, extent_Ceil.f 9 x y = some r ∧ tilefarmref1_Ceil.f 9 x y = some r := by
  obtain ⟨k, hk⟩ : ∃ k : Nat, 9 = k + 1 := ⟨8, rfl⟩
  unfold extent_Ceil.f tilefarmref1_Ceil.f
  rw [hk]
  simp only [extent_Ceil.j0, tilefarmref1_Ceil.j0]
  by_cases a : x < 0
  · exact ⟨0, by simp only [a, if_true], by simp only [a, if_true]⟩
  rw [if_neg a]
  by_cases b : y < 1
  · exact ⟨0, by rw [if_pos (decide_eq_true b)], by rw [if_pos (decide_eq_true b)]⟩
  · rw [show decide (y < 1) = false from decide_eq_false b, if_neg (by simp), if_neg (by omega)]
    split
    · exact ⟨_, rfl, rfl⟩
    · exact ⟨_, rfl, rfl⟩

set_option maxHeartbeats 1000000 in
set_option maxRecDepth 100000 in
/-- The reference's Align, walked. -/
theorem ref_align (x y z p : Int) (q : Bool) (w : World)
    (h : (x < 0 ∧ p = 0 ∧ q = false) ∨ (0 ≤ x ∧ y < 1 ∧ p = 0 ∧ q = false) ∨ (0 ≤ x ∧ 1 ≤ y ∧ ∃ c, tilefarmref1_Ceil.f 9 x y = some c ∧ tilefarmref1_Mul.f c y z = some (p, q))) :
    Calls Try.prog 16 #[.int .i64 x, .int .i64 y, .int .i64 z] w fun e w' => e = .returned (.tuple #[.int .i64 p, .bool q]) ∧ Drawn0 w w' := by
  rcases h with ⟨h1, rfl, rfl⟩ | ⟨h1, h2, rfl, rfl⟩ | ⟨h1, h2, c, e1, e2⟩
  · go_enter Try.func16, Try.ntmps16
    go_wp2
    go_ret2
    exact ⟨rfl, Drawn0.refl _⟩
  · have h3 : decide (x < 0) = false := decide_eq_false (by omega)
    go_enter Try.func16, Try.ntmps16
    go_wp2
    go_ret2
    exact ⟨rfl, Drawn0.refl _⟩
  · have h3 : decide (x < 0) = false := decide_eq_false (by omega)
    have h4 : decide (y < 1) = false := decide_eq_false (by omega)
    have E1 := Aside0.mk e1
    have E2 := Aside0.mk e2
    clear e1 e2
    go_enter Try.func16, Try.ntmps16
    go_wp2_with fail
    refine (tilefarmref1_Ceil.calls 9 x y c _ E1.out).mono ?_
    rintro e w1 ⟨rfl, ⟨n1, rfl⟩⟩
    go_wp2_with fail
    refine (tilefarmref1_Mul.calls c y z p q _ E2.out).mono ?_
    rintro e w2 ⟨rfl, ⟨n2, rfl⟩⟩
    go_wp2_with fail
    go_ret2
    exact ⟨rfl, ⟨⟨_, rfl⟩⟩⟩

set_option maxHeartbeats 1000000 in
set_option maxRecDepth 100000 in
theorem walk (a b c : Int) (x y z : List Int) (w : World) (hx : tilefarmlaw1_near.f a = some x) (hy : tilefarmlaw1_near.f b = some y) (hz : tilefarmlaw1_near.f c = some z) (lx : x.length = 4) (ly : y.length = 4) (lz : z.length = 4)
    (hs : ∃ k, tilefarmlaw1_sane.f k = some true)
    (bz : ∀ i, In64 (rd z i)) :
    Calls Try.prog 5 #[.int .i64 a, .int .i64 b, .int .i64 c] w fun e w' => e = .returned (.bool true) ∧ Below w.heap.size w w' := by
  have Hx := Aside0.mk hx
  have Hy := Aside0.mk hy
  have Hz := Aside0.mk hz
  have Hs := Aside0.mk hs
  have Hm := Aside0.mk bz
  have Lx := Aside0.mk lx
  have Ly := Aside0.mk ly
  have Lz := Aside0.mk lz
  clear hx hy hz hs bz lx ly lz
  go_enter Try.func5, Try.ntmps5
  go_wp2_with fail
  refine (tilefarmlaw1_near.calls a x _ Hx.out).mono ?_
  rintro e w1 ⟨vx, rfl, rx, bx⟩
  have rx := row4 rx Lx.out
  go_wp2_with fail
  refine (tilefarmlaw1_near.calls b y _ Hy.out).mono ?_
  rintro e w2 ⟨vy, rfl, ry, by_⟩
  have ry := row4 ry Ly.out
  go_wp2_with fail
  refine (tilefarmlaw1_near.calls c z _ Hz.out).mono ?_
  rintro e w3 ⟨vz, rfl, rz, bz⟩
  have rz := row4 rz Lz.out
  have ry := row4_below ry bz
  have rx := row4_below (row4_below rx by_) bz
  have B3 := Aside0.mk (below_then (below_then bx bx.size by_) (Nat.le_trans bx.size by_.size) bz)
  clear bx by_ bz
  obtain ⟨gx, cx, rfl, _, hcx⟩ := rx
  obtain ⟨gy, cy, rfl, _, hcy⟩ := ry
  obtain ⟨gz, cz, rfl, _, hcz⟩ := rz
  have Hcx := Aside0.mk hcx
  have Hcy := Aside0.mk hcy
  have Hcz := Aside0.mk hcz
  clear hcx hcy hcz
  clear Hx Hy Hz Lx Ly Lz
  go_wp2_with fail
  go_loopw [10] (fun i wr => ∃ k : Nat, k ≤ 4 ∧ i = .int .i64 k ∧ Drawn0 w3 wr) (fun i _ => 4 - (intOf i).toNat)
  case atStart => exact ⟨0, by omega, rfl, Drawn0.refl _⟩
  case round =>
    obtain ⟨k, hk, rfl, hd⟩ := hrel
    by_cases hlt : k < 4
    · go_wp2_with fail
      obtain ⟨wo, hwo⟩ : ∃ wo : World, wo = wr := ⟨_, rfl⟩
      subst hwo
      go_loopw [11, 12, 13, 14, 15] (fun j _ _ _ _ wr => ∃ l : Nat, l ≤ 4 ∧ j = .int .i64 l ∧ Drawn0 w3 wr) (fun j _ _ _ _ _ => 4 - (intOf j).toNat)
      case atStart => exact ⟨0, by omega, rfl, hd⟩
      case round =>
        obtain ⟨l, hl, rfl, hd2⟩ := hrel
        by_cases hlt2 : l < 4
        · obtain ⟨p, q, e1, e2⟩ := align_same (rd x k) (rd y l) (rd z (((k : Int) + (l : Int)) % 4)) (Hm.out _)
          obtain ⟨r, e3, e4⟩ := ceil_same (rd x k) (rd y l)
          have E3 := Aside0.mk e3
          have E4 := Aside0.mk e4
          have E1 := Aside0.mk e1
          have E2 := Aside0.mk e2
          clear e1 e2 e3 e4
          have c1 := (Drawn0.cell hd2 _).trans (Hcx.out k hlt)
          have c2 := (Drawn0.cell hd2 _).trans (Hcy.out l hlt2)
          have c3 : wr.cell? ⟨gz, (k + l) % 4, none⟩ = some (.int .i64 (rd z (((k : Int) + (l : Int)) % 4))) := by
            rw [Drawn0.cell hd2, Hcz.out ((k + l) % 4) (by omega), show (((k + l) % 4 : Nat) : Int) = ((k : Int) + (l : Int)) % 4 by omega]
          go_wp2_with fail
          go_big_quiet ((go_at_call 15; refine (extent_Align.calls 9 _ _ _ p q _ E1.out).mono ?_; rintro e w' ⟨rfl, ⟨nd, rfl⟩⟩; first | exact ⟨rfl, _, World.drewN_drewN _ _ _⟩ | exact ⟨rfl, _, Eq.trans (World.drewN_drewN _ _ _) (congrArg (World.drewN _) (Nat.add_assoc _ _ _))⟩))
          go_wp2_with fail
          go_big_quiet ((go_at_call 16; refine (ref_align _ _ _ p q _ E2.out).mono ?_; rintro e w' ⟨rfl, ⟨nd, rfl⟩⟩; first | exact ⟨rfl, _, World.drewN_drewN _ _ _⟩ | exact ⟨rfl, _, Eq.trans (World.drewN_drewN _ _ _) (congrArg (World.drewN _) (Nat.add_assoc _ _ _))⟩))
          have p1 : (p != p) = false := by simp
          have q1 : (q != q) = false := by simp
          have r1 : (r != r) = false := by simp
          go_wp2_with fail
          go_big_quiet ((first | (go_at_call 17; refine (extent_Ceil.calls 9 _ _ r _ E3.out).mono ?_; rintro e w' ⟨rfl, ⟨nd, rfl⟩⟩; first | exact ⟨rfl, _, World.drewN_drewN _ _ _⟩ | exact ⟨rfl, _, Eq.trans (World.drewN_drewN _ _ _) (congrArg (World.drewN _) (Nat.add_assoc _ _ _))⟩) | (go_at_call 18; refine (tilefarmref1_Ceil.calls 9 _ _ r _ E4.out).mono ?_; rintro e w' ⟨rfl, ⟨nd, rfl⟩⟩; first | exact ⟨rfl, _, World.drewN_drewN _ _ _⟩ | exact ⟨rfl, _, Eq.trans (World.drewN_drewN _ _ _) (congrArg (World.drewN _) (Nat.add_assoc _ _ _))⟩)))
          go_wp2_with fail
          go_roundw
          case rel => exact ⟨l + 1, by omega, by go_num, hd2.step _⟩
          case measure => simp [intOf]; omega
        · obtain rfl : l = 4 := by omega
          go_wp2_with fail
          go_roundw
          case rel => exact ⟨k + 1, by omega, by go_num, hd2⟩
          case measure => simp [intOf]; omega
    · obtain rfl : k = 4 := by omega
      go_wp2_with fail
      obtain ⟨ks, hks⟩ := Hs.out
      refine (tilefarmlaw1_sane.calls ks true _ hks).mono ?_
      rintro e w9 ⟨rfl, b9⟩
      go_wp2_with fail
      go_ret
      exact ⟨rfl, below_then (below_then B3.out B3.out.size hd.below) (Nat.le_trans B3.out.size hd.below.size) b9⟩

theorem law (a b c : Int) (w : World) (ha : (Lit.int .i64 a).wf = true) (hb : (Lit.int .i64 b).wf = true) (hc : (Lit.int .i64 c).wf = true) :
    Calls Try.prog 5 #[.int .i64 a, .int .i64 b, .int .i64 c] w fun e w' => e = .returned (.bool true) ∧ Below w.heap.size w w' := by
  obtain ⟨x, x1, x2, _⟩ := near_in a (in_of_wf ha)
  obtain ⟨y, y1, y2, _⟩ := near_in b (in_of_wf hb)
  obtain ⟨z, z1, z2, z3⟩ := near_in c (in_of_wf hc)
  exact walk a b c x y z w x1 y1 z1 x2 y2 z2 ⟨10, sane_at 10 (by omega)⟩ z3

end Go.Proofs.Ytfbkfefidjpohaa.OwnRound
