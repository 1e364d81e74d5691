/- Release and Alloc of the arenas, walked. Printed by gen_ar2.py. -/
import Derived.Test.YtlnmgbimjenbfaaAr
import Derived.BigRegion
namespace Go.Proofs.Ytlnmgbimjenbfaa.Ar
open Go.RowKit Go.Proofs.YtlnmgbimjenbfaaW.PrintWords Go.Proofs.YtlnmgbimjenbfaaW.PrintLast Go.Proofs.YtlnmgbimjenbfaaW.PrintMore
open Go.Proofs.Ytlnmgbimjenbfaa.PArenaFollows
set_option linter.unusedVariables false

theorem row_at {w : World} {base gv n cap : Nat} {ok : Nat → Prop} {l : List Int} (h : Kd.R (Kd.int .i64) 3 w base ok (.slice (some ⟨gv, 0, none⟩) n cap) l) (j : Nat) (x : Int) (hx : l[j]? = some x) :
    w.cell? ⟨gv, j, none⟩ = some (.int .i64 x) := by
  have hj := (List.getElem?_eq_some_iff.1 hx).1
  obtain ⟨ad, he, h0⟩ := Kd.at_int (Kd.R_reads' h).2.2 (j : Int) (by omega) (by omega)
  injection he with he
  subst he
  have hr : rd l (j : Int) = x := by simp [rd, List.getD_eq_getElem?_getD, hx]
  rw [hr, Int.toNat_natCast, add_plain] at h0
  exact h0

/-- Behind a release: the mark's use, the row's cut. -/
theorem release_leaves {T : TypeId} {w0 w : World} {p gv n cap : Nat} {c u hi x : Int} {F : Nat → Prop} {l : List Int} (h : Ar T w0 w p c u hi F (l ++ [x])) (hB : Below w0.heap.size w0 w) (hn : l.length = n)
    (h1 : w.heap[p]? = some (.cells #[.int .i64 c, .int .i64 u, .int .i64 hi, .slice (some ⟨gv, 0, none⟩) (n + 1) cap] T (0, 0))) (h2 : Kd.R (Kd.int .i64) 3 w w0.heap.size F (.slice (some ⟨gv, 0, none⟩) (n + 1) cap) (l ++ [x])) :
    Ar T w0 ((w.setCell ⟨p, 1, none⟩ (.int .i64 x)).setCell ⟨p, 3, none⟩ (.slice (some ⟨gv, 0, none⟩) n cap)) p c x hi F l ∧
    Below w0.heap.size w0 ((w.setCell ⟨p, 1, none⟩ (.int .i64 x)).setCell ⟨p, 3, none⟩ (.slice (some ⟨gv, 0, none⟩) n cap)) ∧
    Kept w ((w.setCell ⟨p, 1, none⟩ (.int .i64 x)).setCell ⟨p, 3, none⟩ (.slice (some ⟨gv, 0, none⟩) n cap)) (fun k => k = p ∨ F k) := by
  obtain ⟨q, b, k⟩ := store_used h hB x
  have o1 := blk_set h1 1 (.int .i64 x)
  have r1 := Kd.R_far h2 (p := ⟨p, 1, none⟩) (fun k hk e => h.out (by rw [← show k = p from e]; exact hk)) (.int .i64 x)
  have r2 := Kd.R_take r1 (m := n) (by simp [hn])
  rw [← hn, List.take_left' rfl, hn] at r2
  exact store_row q.pw q.out (by simpa using o1) r2 b k (fun i hi => q.fresh i hi)

theorem alignR_is {u m c r : Int} (h : alignR u m c = (r, true)) (hu : 0 ≤ u) (hu1 : u < 1099511627776) (hm : 1 ≤ m) : u ≤ r ∧ r ≤ c ∧ r < u + m ∧ r % m = 0 := by
  obtain ⟨q, c0, c1, c2, c3, c4, c5⟩ := ceilM_is u m hu hu1 hm
  unfold alignR at h
  split at h
  · rename_i hc
    rw [c0] at h hc
    injection h with h1 h2
    subst h1
    exact ⟨c3, hc, c4, Int.mul_emod_left q m⟩
  · injection h with _ h2
    exact absurd h2 (by decide)
theorem alignR_not {u m c r : Int} (h : alignR u m c = (r, false)) (hu : 0 ≤ u) (hu1 : u < 1099511627776) (hm : 1 ≤ m) : c < ceilM u m := by
  unfold alignR at h
  split at h
  · injection h with _ h2
    exact absurd h2 (by decide)
  · omega

/-- Behind a reservation: the use and the greatest use. -/
theorem alloc_leaves {T : TypeId} {w0 w w1 : World} {p : Nat} {c u hi : Int} {F : Nat → Prop} {l : List Int} (h : Ar T w0 w p c u hi F l) (hB : Below w0.heap.size w0 w) (hb : Below w.heap.size w w1) (u' h' : Int) :
    Ar T w0 ((w1.setCell ⟨p, 1, none⟩ (.int .i64 u')).setCell ⟨p, 2, none⟩ (.int .i64 h')) p c u' h' F l ∧
    Below w0.heap.size w0 ((w1.setCell ⟨p, 1, none⟩ (.int .i64 u')).setCell ⟨p, 2, none⟩ (.int .i64 h')) ∧
    Kept w ((w1.setCell ⟨p, 1, none⟩ (.int .i64 u')).setCell ⟨p, 2, none⟩ (.int .i64 h')) (fun k => k = p ∨ F k) := by
  obtain ⟨q, b, k⟩ := store_used (h.below hb) (below_then hB hB.size hb) u'
  obtain ⟨q2, b2, k2⟩ := store_high q b h'
  have k0 : Kept w w1 (fun k => k = p ∨ F k) := Kept.of_below hb _
  refine ⟨q2, b2, ?_⟩
  exact (k0.setCell (.inl (.inl rfl)) _).setCell (.inl (.inl rfl)) _

/-! ### Side A: the program -/
set_option maxHeartbeats 1000000 in
set_option maxRecDepth 100000 in
theorem a_release_nil (w : World) : Calls Try.prog 16 #[.pointer none] w fun e w' => e = .returned (.int .i64 20) ∧ w = w' := by
  go_enter Try.func16, Try.ntmps16
  go_wp2_with fail
  go_ret
  exact ⟨rfl, rfl⟩

set_option maxHeartbeats 1000000 in
set_option maxRecDepth 100000 in
theorem a_release_none {w0 w : World} {p : Nat} {c u h : Int} {F : Nat → Prop} (H : Ar 46 w0 w p c u h F []) : Calls Try.prog 16 #[.pointer (some ⟨p, 0, none⟩)] w fun e w' => e = .returned (.int .i64 20) ∧ w = w' := by
  obtain ⟨A, n, hc⟩ := H.c3
  clear H
  simp only [List.length_nil] at hc
  go_enter Try.func16, Try.ntmps16
  go_wp2_with fail
  go_ret
  exact ⟨rfl, rfl⟩

set_option maxHeartbeats 1000000 in
set_option maxRecDepth 100000 in
theorem a_release {w0 w : World} {p : Nat} {c u hi x : Int} {F : Nat → Prop} {l : List Int} (h : Ar 46 w0 w p c u hi F (l ++ [x])) (hB : Below w0.heap.size w0 w) (hl : l.length < 1024) :
    Calls Try.prog 16 #[.pointer (some ⟨p, 0, none⟩)] w fun e w' => e = .returned (.int .i64 0) ∧ Ar 46 w0 w' p c x hi F l ∧ Below w0.heap.size w0 w' ∧ Kept w w' (fun k => k = p ∨ F k) := by
  obtain ⟨v, h1, h2⟩ := h.row
  obtain ⟨gv, cap, rfl, _, hgv, _⟩ := Kd.R_form h2 (by simp)
  have x0 := row_at h2 l.length x (by simp)
  have hp := blk_lt h1
  have hcap := (Kd.R_reads' h2).2.1
  rw [List.length_append, List.length_singleton] at h1 h2 hcap
  generalize hn : l.length = n at *
  have c1 := (blk_cell h1 1).trans rfl
  have c3 := (blk_cell h1 3).trans rfl
  have f1 := blk_frozen h1 1
  have f3 := blk_frozen h1 3
  have H1 := Aside0.mk h1
  have H2 := Aside0.mk h2
  have Hn := Aside0.mk hn
  clear h1 h2 hn
  have hz : ((n : Int) + 1 == 0) = false := beq_eq_false_iff_ne.mpr (by omega)
  have ng : Aside0 (gv ≠ p) := ⟨fun e => h.out (by have := H2.out.1 gv rfl; rwa [e] at this)⟩
  go_enter Try.func16, Try.ntmps16
  go_wp2_with fail
  have i0 : (0 : Int) ≤ (n : Int) := Int.natCast_nonneg _
  have i1 : (n : Int) < (n : Int) + 1 := by omega
  have i2 : IntKind.i64.wrap (n : Int) = (n : Int) := IntWalk.i64_in _ (by omega)
  have i3 : n ≤ cap := by omega
  go_region
  clear i2
  go_wp2_with fail
  go_ret
  obtain ⟨e1, e2, e3⟩ := release_leaves h hB Hn.out H1.out H2.out
  exact ⟨rfl, e1.drew, below_drew e2, e3.drew⟩

set_option maxHeartbeats 1000000 in
set_option maxRecDepth 100000 in
theorem a_alloc_nil (n m : Int) (w : World) : Calls Try.prog 9 #[.pointer none, .int .i64 n, .int .i64 m] w fun e w' => e = .returned (.tuple #[.int .i64 0, .int .i64 20]) ∧ w = w' := by
  go_enter Try.func9, Try.ntmps9
  go_wp2_with fail
  go_ret2
  exact ⟨rfl, rfl⟩

set_option maxHeartbeats 1000000 in
set_option maxRecDepth 100000 in
theorem a_alloc_range (p : Nat) (n m : Int) (w : World) (h : n < 1 ∨ 1048576 < n ∨ m < 1 ∨ 4096 < m) : Calls Try.prog 9 #[.pointer (some ⟨p, 0, none⟩), .int .i64 n, .int .i64 m] w fun e w' => e = .returned (.tuple #[.int .i64 0, .int .i64 2]) ∧ w = w' := by
  by_cases h1 : n < 1
  · have t1 : decide (n < 1) = true := decide_eq_true h1
    go_enter Try.func9, Try.ntmps9
    go_wp2_with fail
    go_ret2
    exact ⟨rfl, rfl⟩
  have t1 : decide (n < 1) = false := decide_eq_false h1
  by_cases h2 : n > 1048576
  · have t2 : decide (n > 1048576) = true := decide_eq_true h2
    go_enter Try.func9, Try.ntmps9
    go_wp2_with fail
    go_ret2
    exact ⟨rfl, rfl⟩
  have t2 : decide (n > 1048576) = false := decide_eq_false h2
  by_cases h3 : m < 1
  · have t3 : decide (m < 1) = true := decide_eq_true h3
    go_enter Try.func9, Try.ntmps9
    go_wp2_with fail
    go_ret2
    exact ⟨rfl, rfl⟩
  have t3 : decide (m < 1) = false := decide_eq_false h3
  have h4 : m > 4096 := by omega
  have t4 : decide (m > 4096) = true := decide_eq_true h4
  go_enter Try.func9, Try.ntmps9
  go_wp2_with fail
  go_ret2
  exact ⟨rfl, rfl⟩

set_option maxHeartbeats 2000000 in
set_option maxRecDepth 100000 in
theorem a_alloc_in {w0 w : World} {p : Nat} {c u hi n m : Int} {F : Nat → Prop} {l : List Int} (h : Ar 46 w0 w p c u hi F l) (hB : Below w0.heap.size w0 w) (hu : 0 ≤ u) (huc : u ≤ c) (hc : c ≤ 1048576) (hr : ¬ (n < 1 ∨ 1048576 < n ∨ m < 1 ∨ 4096 < m)) :
    Calls Try.prog 9 #[.pointer (some ⟨p, 0, none⟩), .int .i64 n, .int .i64 m] w fun e w' => e = .returned (.tuple #[.int .i64 (allocR c u hi n m).1, .int .i64 (allocR c u hi n m).2.1]) ∧
      Ar 46 w0 w' p c (allocR c u hi n m).2.2.1 (allocR c u hi n m).2.2.2 F l ∧ Below w0.heap.size w0 w' ∧ Kept w w' (fun k => k = p ∨ F k) := by
  have ha := extent_align u m c hu (by omega) (by omega) (by omega) (by omega) (by omega)
  obtain ⟨r, b, he⟩ : ∃ r b, alignR u m c = (r, b) := ⟨_, _, rfl⟩
  rw [he] at ha
  have hb0 : b = true → u ≤ r ∧ r ≤ c ∧ r < u + m ∧ r % m = 0 := fun hb => alignR_is (by rw [he, hb]) hu (by omega) (by omega)
  unfold allocR
  rw [if_neg hr, he]
  generalize hR : (if (r, b).2 = true ∧ n ≤ c - (r, b).1 then ((r, b).1, (0 : Int), (r, b).1 + n, max hi ((r, b).1 + n)) else (0, 19, u, hi)) = R
  have HR := Aside0.mk hR
  clear hR
  have t1 : decide (n < 1) = false := decide_eq_false (by omega)
  have t2 : decide (n > 1048576) = false := decide_eq_false (by omega)
  have t3 : decide (m < 1) = false := decide_eq_false (by omega)
  have t4 : decide (m > 4096) = false := decide_eq_false (by omega)
  obtain ⟨v, h1, h2⟩ := h.row
  have hp := blk_lt h1
  have c0 := (blk_cell h1 0).trans rfl
  have c1 := (blk_cell h1 1).trans rfl
  have c2 := (blk_cell h1 2).trans rfl
  have f1 := blk_frozen h1 1
  have f2 := blk_frozen h1 2
  have HA := Aside0.mk ha
  have HH := Aside0.mk h
  have HE := Aside0.mk he
  clear h1 h2 ha he
  go_enter Try.func9, Try.ntmps9
  go_wp2_with fail
  go_region_held3 (fun w' => w'.cell? ⟨p, 0, none⟩ = some (.int .i64 c) ∧ w'.cell? ⟨p, 1, none⟩ = some (.int .i64 u))
    (first | exact ⟨c0, c1⟩ | exact ⟨d0, d1⟩)
    ((go_at_call 28; refine (extent_Align.calls 2 u m c r b _ HA.out).mono ?_; rintro e wa ⟨rfl, hd⟩; have hb := below_then (below_drew (Below.refl w.heap.size w)) (by first | exact Nat.le_refl _ | simp) hd.below; have d0 := (hb.cell (p := ⟨p, 0, none⟩) hp).trans c0; have d1 := (hb.cell (p := ⟨p, 1, none⟩) hp).trans c1; have d2 := (hb.cell (p := ⟨p, 2, none⟩) hp).trans c2; have g1 := (hb.frozen (p := ⟨p, 1, none⟩) hp).trans f1; have g2 := (hb.frozen (p := ⟨p, 2, none⟩) hp).trans f2))
  have HD := Aside0.mk hb
  clear hd hb
  cases b with
  | false =>
    obtain rfl : (0, 19, u, hi) = R := by rw [← HR.out, if_neg (by simp)]
    go_wp2_with fail
    go_ret2
    exact ⟨rfl, h.below HD.out, below_then hB hB.size HD.out, Kept.of_below HD.out _⟩
  | true =>
    obtain ⟨q1, q2, q3, q4⟩ := hb0 rfl
    by_cases hn : n > c - r
    · have t5 : decide (n > c - r) = true := decide_eq_true hn
      obtain rfl : (0, 19, u, hi) = R := by rw [← HR.out, if_neg (fun hh => by have := hh.2; omega)]
      go_wp2_with fail
      go_ret2
      exact ⟨rfl, h.below HD.out, below_then hB hB.size HD.out, Kept.of_below HD.out _⟩
    · have t5 : decide (n > c - r) = false := decide_eq_false hn
      obtain rfl : (r, 0, r + n, max hi (r + n)) = R := by rw [← HR.out, if_pos ⟨rfl, by omega⟩]
      go_wp2_with fail
      go_region
      go_wp2_with fail
      all_goals
        go_ret2
        obtain ⟨e1, e2, e3⟩ := alloc_leaves HH.out hB HD.out (r + n) (max hi (r + n))
        first
          | exact ⟨rfl, e1.drew, below_drew e2, e3.drew⟩
          | (have mx : max hi (r + n) = r + n := by omega
             rw [mx] at e1 e2 e3 ⊢
             exact ⟨rfl, e1.drew, below_drew e2, e3.drew⟩)
          | (have mx : max hi (r + n) = hi := by omega
             rw [mx] at e1 e2 e3 ⊢
             exact ⟨rfl, e1.drew, below_drew e2, e3.drew⟩)

/-- Alloc of an arena that is not nil. -/
theorem a_alloc {w0 w : World} {p : Nat} {c u hi : Int} (n m : Int) {F : Nat → Prop} {l : List Int} (h : Ar 46 w0 w p c u hi F l) (hB : Below w0.heap.size w0 w) (hu : 0 ≤ u) (huc : u ≤ c) (hc : c ≤ 1048576) :
    Calls Try.prog 9 #[.pointer (some ⟨p, 0, none⟩), .int .i64 n, .int .i64 m] w fun e w' => e = .returned (.tuple #[.int .i64 (allocR c u hi n m).1, .int .i64 (allocR c u hi n m).2.1]) ∧
      Ar 46 w0 w' p c (allocR c u hi n m).2.2.1 (allocR c u hi n m).2.2.2 F l ∧ Below w0.heap.size w0 w' ∧ Kept w w' (fun k => k = p ∨ F k) := by
  by_cases hr : n < 1 ∨ 1048576 < n ∨ m < 1 ∨ 4096 < m
  · refine (a_alloc_range p n m w hr).mono ?_
    rintro e w' ⟨rfl, rfl⟩
    unfold allocR
    rw [if_pos hr]
    exact ⟨rfl, h, hB, Kept.refl _ _⟩
  · exact a_alloc_in h hB hu huc hc hr

/-! ### Side B: the reference -/
set_option maxHeartbeats 1000000 in
set_option maxRecDepth 100000 in
theorem b_release_nil (w : World) : Calls Try.prog 22 #[.pointer none] w fun e w' => e = .returned (.int .i64 20) ∧ w = w' := by
  go_enter Try.func22, Try.ntmps22
  go_wp2_with fail
  go_ret
  exact ⟨rfl, rfl⟩

set_option maxHeartbeats 1000000 in
set_option maxRecDepth 100000 in
theorem b_release_none {w0 w : World} {p : Nat} {c u h : Int} {F : Nat → Prop} (H : Ar 50 w0 w p c u h F []) : Calls Try.prog 22 #[.pointer (some ⟨p, 0, none⟩)] w fun e w' => e = .returned (.int .i64 20) ∧ w = w' := by
  obtain ⟨A, n, hc⟩ := H.c3
  clear H
  simp only [List.length_nil] at hc
  go_enter Try.func22, Try.ntmps22
  go_wp2_with fail
  go_ret
  exact ⟨rfl, rfl⟩

set_option maxHeartbeats 1000000 in
set_option maxRecDepth 100000 in
theorem b_release {w0 w : World} {p : Nat} {c u hi x : Int} {F : Nat → Prop} {l : List Int} (h : Ar 50 w0 w p c u hi F (l ++ [x])) (hB : Below w0.heap.size w0 w) (hl : l.length < 1024) :
    Calls Try.prog 22 #[.pointer (some ⟨p, 0, none⟩)] w fun e w' => e = .returned (.int .i64 0) ∧ Ar 50 w0 w' p c x hi F l ∧ Below w0.heap.size w0 w' ∧ Kept w w' (fun k => k = p ∨ F k) := by
  obtain ⟨v, h1, h2⟩ := h.row
  obtain ⟨gv, cap, rfl, _, hgv, _⟩ := Kd.R_form h2 (by simp)
  have x0 := row_at h2 l.length x (by simp)
  have hp := blk_lt h1
  have hcap := (Kd.R_reads' h2).2.1
  rw [List.length_append, List.length_singleton] at h1 h2 hcap
  generalize hn : l.length = n at *
  have c1 := (blk_cell h1 1).trans rfl
  have c3 := (blk_cell h1 3).trans rfl
  have f1 := blk_frozen h1 1
  have f3 := blk_frozen h1 3
  have H1 := Aside0.mk h1
  have H2 := Aside0.mk h2
  have Hn := Aside0.mk hn
  clear h1 h2 hn
  have hz : ((n : Int) + 1 == 0) = false := beq_eq_false_iff_ne.mpr (by omega)
  have ng : Aside0 (gv ≠ p) := ⟨fun e => h.out (by have := H2.out.1 gv rfl; rwa [e] at this)⟩
  go_enter Try.func22, Try.ntmps22
  go_wp2_with fail
  have i0 : (0 : Int) ≤ (n : Int) := Int.natCast_nonneg _
  have i1 : (n : Int) < (n : Int) + 1 := by omega
  have i2 : IntKind.i64.wrap (n : Int) = (n : Int) := IntWalk.i64_in _ (by omega)
  have i3 : n ≤ cap := by omega
  go_region
  clear i2
  go_wp2_with fail
  have i2 : IntKind.i64.wrap (n : Int) = (n : Int) := IntWalk.i64_in _ (by omega)
  go_region
  clear i2
  go_wp2_with fail
  go_ret
  obtain ⟨e1, e2, e3⟩ := release_leaves h hB Hn.out H1.out H2.out
  exact ⟨rfl, e1.drew.drew, below_drew (below_drew e2), e3.drew.drew⟩

set_option maxHeartbeats 1000000 in
set_option maxRecDepth 100000 in
theorem b_alloc_nil (n m : Int) (w : World) : Calls Try.prog 20 #[.pointer none, .int .i64 n, .int .i64 m] w fun e w' => e = .returned (.tuple #[.int .i64 0, .int .i64 20]) ∧ w = w' := by
  go_enter Try.func20, Try.ntmps20
  go_wp2_with fail
  go_ret2
  exact ⟨rfl, rfl⟩

set_option maxHeartbeats 1000000 in
set_option maxRecDepth 100000 in
theorem b_alloc_range (p : Nat) (n m : Int) (w : World) (h : n < 1 ∨ 1048576 < n ∨ m < 1 ∨ 4096 < m) : Calls Try.prog 20 #[.pointer (some ⟨p, 0, none⟩), .int .i64 n, .int .i64 m] w fun e w' => e = .returned (.tuple #[.int .i64 0, .int .i64 2]) ∧ w = w' := by
  by_cases h1 : n < 1
  · have t1 : decide (n < 1) = true := decide_eq_true h1
    go_enter Try.func20, Try.ntmps20
    go_wp2_with fail
    go_ret2
    exact ⟨rfl, rfl⟩
  have t1 : decide (n < 1) = false := decide_eq_false h1
  by_cases h2 : n > 1048576
  · have t2 : decide (n > 1048576) = true := decide_eq_true h2
    go_enter Try.func20, Try.ntmps20
    go_wp2_with fail
    go_ret2
    exact ⟨rfl, rfl⟩
  have t2 : decide (n > 1048576) = false := decide_eq_false h2
  by_cases h3 : m < 1
  · have t3 : decide (m < 1) = true := decide_eq_true h3
    go_enter Try.func20, Try.ntmps20
    go_wp2_with fail
    go_ret2
    exact ⟨rfl, rfl⟩
  have t3 : decide (m < 1) = false := decide_eq_false h3
  have h4 : m > 4096 := by omega
  have t4 : decide (m > 4096) = true := decide_eq_true h4
  go_enter Try.func20, Try.ntmps20
  go_wp2_with fail
  go_ret2
  exact ⟨rfl, rfl⟩

set_option maxHeartbeats 2000000 in
set_option maxRecDepth 100000 in
theorem b_alloc_in {w0 w : World} {p : Nat} {c u hi n m : Int} {F : Nat → Prop} {l : List Int} (h : Ar 50 w0 w p c u hi F l) (hB : Below w0.heap.size w0 w) (hu : 0 ≤ u) (huc : u ≤ c) (hc : c ≤ 1048576) (hr : ¬ (n < 1 ∨ 1048576 < n ∨ m < 1 ∨ 4096 < m)) :
    Calls Try.prog 20 #[.pointer (some ⟨p, 0, none⟩), .int .i64 n, .int .i64 m] w fun e w' => e = .returned (.tuple #[.int .i64 (allocR c u hi n m).1, .int .i64 (allocR c u hi n m).2.1]) ∧
      Ar 50 w0 w' p c (allocR c u hi n m).2.2.1 (allocR c u hi n m).2.2.2 F l ∧ Below w0.heap.size w0 w' ∧ Kept w w' (fun k => k = p ∨ F k) := by
  have ha := tilefarmref1_align u m c hu (by omega) (by omega) (by omega) (by omega) (by omega)
  obtain ⟨r, b, he⟩ : ∃ r b, alignR u m c = (r, b) := ⟨_, _, rfl⟩
  rw [he] at ha
  have hb0 : b = true → u ≤ r ∧ r ≤ c ∧ r < u + m ∧ r % m = 0 := fun hb => alignR_is (by rw [he, hb]) hu (by omega) (by omega)
  unfold allocR
  rw [if_neg hr, he]
  generalize hR : (if (r, b).2 = true ∧ n ≤ c - (r, b).1 then ((r, b).1, (0 : Int), (r, b).1 + n, max hi ((r, b).1 + n)) else (0, 19, u, hi)) = R
  have HR := Aside0.mk hR
  clear hR
  have t1 : decide (n < 1) = false := decide_eq_false (by omega)
  have t2 : decide (n > 1048576) = false := decide_eq_false (by omega)
  have t3 : decide (m < 1) = false := decide_eq_false (by omega)
  have t4 : decide (m > 4096) = false := decide_eq_false (by omega)
  obtain ⟨v, h1, h2⟩ := h.row
  have hp := blk_lt h1
  have c0 := (blk_cell h1 0).trans rfl
  have c1 := (blk_cell h1 1).trans rfl
  have c2 := (blk_cell h1 2).trans rfl
  have f1 := blk_frozen h1 1
  have f2 := blk_frozen h1 2
  have HA := Aside0.mk ha
  have HH := Aside0.mk h
  have HE := Aside0.mk he
  clear h1 h2 ha he
  go_enter Try.func20, Try.ntmps20
  go_wp2_with fail
  go_region_held3 (fun w' => w'.cell? ⟨p, 0, none⟩ = some (.int .i64 c) ∧ w'.cell? ⟨p, 1, none⟩ = some (.int .i64 u))
    (first | exact ⟨c0, c1⟩ | exact ⟨d0, d1⟩)
    ((go_at_call 29; refine (tilefarmref1_Align.calls 2 u m c r b _ HA.out).mono ?_; rintro e wa ⟨rfl, hd⟩; have hb := below_then (below_drew (Below.refl w.heap.size w)) (by first | exact Nat.le_refl _ | simp) hd.below; have d0 := (hb.cell (p := ⟨p, 0, none⟩) hp).trans c0; have d1 := (hb.cell (p := ⟨p, 1, none⟩) hp).trans c1; have d2 := (hb.cell (p := ⟨p, 2, none⟩) hp).trans c2; have g1 := (hb.frozen (p := ⟨p, 1, none⟩) hp).trans f1; have g2 := (hb.frozen (p := ⟨p, 2, none⟩) hp).trans f2))
  have HD := Aside0.mk hb
  clear hd hb
  cases b with
  | false =>
    obtain rfl : (0, 19, u, hi) = R := by rw [← HR.out, if_neg (by simp)]
    go_wp2_with fail
    go_ret2
    exact ⟨rfl, h.below HD.out, below_then hB hB.size HD.out, Kept.of_below HD.out _⟩
  | true =>
    obtain ⟨q1, q2, q3, q4⟩ := hb0 rfl
    by_cases hn : n > c - r
    · have t5 : decide (n > c - r) = true := decide_eq_true hn
      obtain rfl : (0, 19, u, hi) = R := by rw [← HR.out, if_neg (fun hh => by have := hh.2; omega)]
      go_wp2_with fail
      go_ret2
      exact ⟨rfl, h.below HD.out, below_then hB hB.size HD.out, Kept.of_below HD.out _⟩
    · have t5 : decide (n > c - r) = false := decide_eq_false hn
      obtain rfl : (r, 0, r + n, max hi (r + n)) = R := by rw [← HR.out, if_pos ⟨rfl, by omega⟩]
      go_wp2_with fail
      go_region
      go_wp2_with fail
      all_goals
        go_ret2
        obtain ⟨e1, e2, e3⟩ := alloc_leaves HH.out hB HD.out (r + n) (max hi (r + n))
        first
          | exact ⟨rfl, e1.drew, below_drew e2, e3.drew⟩
          | (have mx : max hi (r + n) = r + n := by omega
             rw [mx] at e1 e2 e3 ⊢
             exact ⟨rfl, e1.drew, below_drew e2, e3.drew⟩)
          | (have mx : max hi (r + n) = hi := by omega
             rw [mx] at e1 e2 e3 ⊢
             exact ⟨rfl, e1.drew, below_drew e2, e3.drew⟩)

/-- Alloc of an arena that is not nil. -/
theorem b_alloc {w0 w : World} {p : Nat} {c u hi : Int} (n m : Int) {F : Nat → Prop} {l : List Int} (h : Ar 50 w0 w p c u hi F l) (hB : Below w0.heap.size w0 w) (hu : 0 ≤ u) (huc : u ≤ c) (hc : c ≤ 1048576) :
    Calls Try.prog 20 #[.pointer (some ⟨p, 0, none⟩), .int .i64 n, .int .i64 m] w fun e w' => e = .returned (.tuple #[.int .i64 (allocR c u hi n m).1, .int .i64 (allocR c u hi n m).2.1]) ∧
      Ar 50 w0 w' p c (allocR c u hi n m).2.2.1 (allocR c u hi n m).2.2.2 F l ∧ Below w0.heap.size w0 w' ∧ Kept w w' (fun k => k = p ∨ F k) := by
  by_cases hr : n < 1 ∨ 1048576 < n ∨ m < 1 ∨ 4096 < m
  · refine (b_alloc_range p n m w hr).mono ?_
    rintro e w' ⟨rfl, rfl⟩
    unfold allocR
    rw [if_pos hr]
    exact ⟨rfl, h, hB, Kept.refl _ _⟩
  · exact b_alloc_in h hB hu huc hc hr

end Go.Proofs.Ytlnmgbimjenbfaa.Ar
