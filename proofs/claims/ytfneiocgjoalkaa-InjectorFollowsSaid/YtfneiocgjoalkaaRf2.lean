/- New, Len, Push, List, Remove of the reference's injector, walked. -/
import Derived.Test.YtfneiocgjoalkaaRf
import Derived.Deep.RegionWith
namespace Go.Proofs.Ytfneiocgjoalkaa.Rf
open Go.RowKit Go.Proofs.YtfneiocgjoalkaaW.PrintWords Go.Proofs.YtfneiocgjoalkaaW.PrintLast Go.Proofs.YtfneiocgjoalkaaW.PrintMore
open Go.Proofs.Ytfneiocgjoalkaa.PInjectorFollows
open Go.Proofs.Ytfneiocgjoalkaa.Ij Go.Proofs.Ytfneiocgjoalkaa.Rm
set_option linter.unusedVariables false
attribute [local go_sem] idx0 idx1 idx2 idx3

set_option maxHeartbeats 1000000 in
set_option maxRecDepth 100000 in
theorem newb_bad (c : Int) (h : c < 1 ∨ 4096 < c) (w : World) : Calls Try.prog 14 #[.int .i64 c] w fun e w' => e = .returned (.tuple #[.pointer none, .int .i64 2]) ∧ w = w' := by
  by_cases h1 : c < 1
  · go_enter Try.func14, Try.ntmps14
    go_wp2_with fail
    go_ret2
    exact ⟨rfl, rfl⟩
  · have h2 : 4096 < c := by omega
    have h3 : decide (c < 1) = false := decide_eq_false h1
    go_enter Try.func14, Try.ntmps14
    go_wp2_with fail
    go_ret2
    exact ⟨rfl, rfl⟩

set_option maxHeartbeats 1000000 in
set_option maxRecDepth 100000 in
theorem newb_ok {w0 w : World} (c : Int) (h1 : 1 ≤ c) (h2 : c ≤ 4096) (hB : Below w0.heap.size w0 w) : Calls Try.prog 14 #[.int .i64 c] w fun e w' =>
    ∃ p, e = .returned (.tuple #[.pointer (some ⟨p, 0, none⟩), .int .i64 0]) ∧ Ij 55 w0 w' p c (fun k => k ≠ p ∧ w.heap.size ≤ k) (fun _ => []) ∧ w.heap.size ≤ p ∧ Below w.heap.size w w' := by
  have h3 : decide (c < 1) = false := decide_eq_false (by omega)
  have h4 : decide (c > 4096) = false := decide_eq_false (by omega)
  go_enter Try.func14, Try.ntmps14
  go_wp2_with fail
  go_ret2
  exact ⟨_, rfl, ij_new 55 c hB, by omega, below_alloc (Below.refl _ _) _⟩


set_option maxHeartbeats 1000000 in
set_option maxRecDepth 100000 in
theorem lenb_nil (w : World) : Calls Try.prog 24 #[.pointer none] w fun e w' => e = .returned (.int .i64 0) ∧ w = w' := by
  go_enter Try.func24, Try.ntmps24
  go_wp2_with fail
  go_loopw [3, 4] (fun v3 v4 wr => v3 = .int .i64 0 ∧ v4 = .int .i64 0 ∧ w = wr) (fun _ i _ => 0)
  case atStart => exact ⟨rfl, rfl, rfl⟩
  case round =>
    obtain ⟨rfl, rfl, rfl⟩ := hrel
    go_wp2_with fail
    go_ret
    exact ⟨rfl, rfl⟩

set_option maxHeartbeats 1000000 in
set_option maxRecDepth 100000 in
theorem lenb_cells (p a0 a1 a2 a3 n0 n1 n2 n3 : Nat) (A0 A1 A2 A3 : Option Addr) (w : World) (hs : a0 + a1 + a2 + a3 ≤ 1000000)
    (h0 : w.cell? ⟨p, 1, none⟩ = some (.slice A0 a0 n0)) (h1 : w.cell? ⟨p, 2, none⟩ = some (.slice A1 a1 n1)) (h2 : w.cell? ⟨p, 3, none⟩ = some (.slice A2 a2 n2)) (h3 : w.cell? ⟨p, 4, none⟩ = some (.slice A3 a3 n3)) :
    Calls Try.prog 24 #[.pointer (some ⟨p, 0, none⟩)] w fun e w' => e = .returned (.int .i64 ((a0 + a1 + a2 + a3 : Nat) : Int)) ∧ w = w' := by
  go_enter Try.func24, Try.ntmps24
  go_wp2_with fail
  go_loopw [3, 4] (fun v3 v4 wr => ∃ k : Nat, k ≤ 4 ∧ v3 = .int .i64 (pre a0 a1 a2 a3 k : Nat) ∧ v4 = .int .i64 (k : Int) ∧ w = wr) (fun _ i _ => 4 - (intOf i).toNat)
  case atStart => exact ⟨0, by omega, rfl, rfl, rfl⟩
  case round =>
    obtain ⟨k, hk, rfl, rfl, rfl⟩ := hrel
    rcases (by omega : k = 0 ∨ k = 1 ∨ k = 2 ∨ k = 3 ∨ k = 4) with rfl | rfl | rfl | rfl | rfl
    · simp only [pre]
      go_wp2_with fail
      go_roundw
      case rel => exact ⟨1, by omega, by simp, by go_num, trivial⟩
      case measure => simp [intOf]
    · simp only [pre]
      go_wp2_with fail
      go_roundw
      case rel => exact ⟨2, by omega, by simp, by go_num, trivial⟩
      case measure => simp [intOf]
    · simp only [pre]
      go_wp2_with fail
      go_roundw
      case rel => exact ⟨3, by omega, by simp, by go_num, trivial⟩
      case measure => simp [intOf]
    · simp only [pre]
      go_wp2_with fail
      go_roundw
      case rel => exact ⟨4, by omega, by simp, by go_num, trivial⟩
      case measure => simp [intOf]
    · go_wp2_with fail
      go_ret
      exact ⟨rfl, rfl⟩

theorem lenb_calls {w0 w : World} {p : Nat} {c : Int} {F : Nat → Prop} {L : Nat → List S33} (h : Ij 55 w0 w p c F L) (hs : tot L ≤ 1000000) :
    Calls Try.prog 24 #[.pointer (some ⟨p, 0, none⟩)] w fun e w' => e = .returned (.int .i64 (tot L)) ∧ w = w' := by
  obtain ⟨A0, n0, h0⟩ := h.cell 0 (by omega)
  obtain ⟨A1, n1, h1⟩ := h.cell 1 (by omega)
  obtain ⟨A2, n2, h2⟩ := h.cell 2 (by omega)
  obtain ⟨A3, n3, h3⟩ := h.cell 3 (by omega)
  exact lenb_cells p _ _ _ _ n0 n1 n2 n3 A0 A1 A2 A3 w hs h0 h1 h2 h3

set_option maxHeartbeats 1000000 in
set_option maxRecDepth 100000 in
theorem pushb_nil (x : S33) (b : Int) (w : World) : Calls Try.prog 17 #[.pointer none, refV x, .int .i64 b] w fun e w' => e = .returned (.int .i64 20) ∧ Below w.heap.size w w' := by
  unfold refV
  go_enter Try.func17, Try.ntmps17
  go_wp2_with fail
  go_ret
  exact ⟨rfl, below_alloc (Below.refl _ _) _⟩

set_option maxHeartbeats 1000000 in
set_option maxRecDepth 100000 in
/-- The zero injector. -/
theorem pushb_zero (p : Nat) (x : S33) (b : Int) (w : World) (hp : p < w.heap.size) (hc0 : w.cell? ⟨p, 0, none⟩ = some (.int .i64 0)) : Calls Try.prog 17 #[.pointer (some ⟨p, 0, none⟩), refV x, .int .i64 b] w fun e w' => e = .returned (.int .i64 20) ∧ Below w.heap.size w w' := by
  have hlt : w.heap.size = p ↔ False := ⟨fun h => by omega, False.elim⟩
  unfold refV
  go_enter Try.func17, Try.ntmps17
  go_wp2_with fail
  go_ret
  exact ⟨rfl, below_alloc (Below.refl _ _) _⟩

set_option maxHeartbeats 1000000 in
set_option maxRecDepth 100000 in
theorem pushb_range {w0 w : World} {p : Nat} {c : Int} {F : Nat → Prop} {L : Nat → List S33} (x : S33) (b : Int) (h : Ij 55 w0 w p c F L) (hc : 1 ≤ c) (hb : ¬ (0 ≤ b ∧ b < 4)) :
    Calls Try.prog 17 #[.pointer (some ⟨p, 0, none⟩), refV x, .int .i64 b] w fun e w' => e = .returned (.int .i64 2) ∧ Below w.heap.size w w' := by
  have hp := h.lt
  have c0 := h.c0
  have hz : (c == 0) = false := beq_eq_false_iff_ne.mpr (by omega)
  have hlt : w.heap.size = p ↔ False := ⟨fun h => by omega, False.elim⟩
  clear h
  unfold refV
  by_cases h0 : b < 0
  · have t1 : decide (b < 0) = true := decide_eq_true h0
    go_enter Try.func17, Try.ntmps17
    go_wp2_with fail
    go_ret
    exact ⟨rfl, below_alloc (Below.refl _ _) _⟩
  · have t1 : decide (b < 0) = false := decide_eq_false h0
    have t2 : decide (b ≥ 4) = true := decide_eq_true (by omega)
    go_enter Try.func17, Try.ntmps17
    go_wp2_with fail
    go_ret
    exact ⟨rfl, below_alloc (Below.refl _ _) _⟩

set_option maxHeartbeats 1000000 in
set_option maxRecDepth 100000 in
theorem pushb_full {w0 w : World} {p : Nat} {c : Int} {F : Nat → Prop} {L : Nat → List S33} (x : S33) (b : Int) (h : Ij 55 w0 w p c F L) (hc : 1 ≤ c) (hb : 0 ≤ b ∧ b < 4) (ht : tot L ≤ 1000000) (hl : c ≤ tot L) :
    Calls Try.prog 17 #[.pointer (some ⟨p, 0, none⟩), refV x, .int .i64 b] w fun e w' => e = .returned (.int .i64 19) ∧ Below w.heap.size w w' := by
  have hp := h.lt
  have c0 := h.c0
  have hz : (c == 0) = false := beq_eq_false_iff_ne.mpr (by omega)
  have hlt : w.heap.size = p ↔ False := ⟨fun h => by omega, False.elim⟩
  have H := Aside0.mk h
  have t1 : decide (b < 0) = false := decide_eq_false (by omega)
  have t2 : decide (b ≥ 4) = false := decide_eq_false (by omega)
  clear h
  unfold refV
  go_enter Try.func17, Try.ntmps17
  go_wp2_with fail
  have hb1 := below_alloc (Below.refl w.heap.size w) (.cells #[.int .i64 x.f0, .int .i64 x.f1] 33)
  have HB := Aside0.mk hb1
  have d0 := (hb1.cell (p := ⟨p, 0, none⟩) hp).trans c0
  clear hb1
  generalize w.alloc (.cells #[.int .i64 x.f0, .int .i64 x.f1] 33) = w1 at *
  go_region_held3 (fun w' => w'.cell? ⟨p, 0, none⟩ = some (.int .i64 c)) (first | exact d0 | go_keep)
    ((go_at_call 24; refine (lenb_calls (H.out.below (below_drew HB.out)) ht).mono ?_; rintro e w2 ⟨rfl, rfl⟩))
  go_wp2_with fail
  go_ret
  exact ⟨rfl, below_drew HB.out⟩

set_option maxHeartbeats 1000000 in
set_option maxRecDepth 100000 in
theorem pushb_ok {w0 w : World} {p b : Nat} {c : Int} {F : Nat → Prop} {L : Nat → List S33} (x : S33) (h : Ij 55 w0 w p c F L) (hB : Below w0.heap.size w0 w) (hb4 : b < 4) (ht : tot L ≤ 1000000) (hl : tot L < c) :
    Calls Try.prog 17 #[.pointer (some ⟨p, 0, none⟩), refV x, .int .i64 b] w fun e w' => e = .returned (.int .i64 0) ∧ Ij 55 w0 w' p c F (upd L b (L b ++ [x])) ∧ Below w0.heap.size w0 w' ∧ Kept w w' (fun k => k = p ∨ F k) := by
  have hp := h.lt
  have c0 := h.c0
  have hz : (c == 0) = false := beq_eq_false_iff_ne.mpr (by omega)
  have hlt : w.heap.size = p ↔ False := ⟨fun h => by omega, False.elim⟩
  have t1 : decide ((b : Int) < 0) = false := decide_eq_false (by omega)
  have t2 : decide ((b : Int) ≥ 4) = false := decide_eq_false (by omega)
  have hl2 := tot_le L b hb4
  obtain ⟨A, n, cb⟩ := h.cell b hb4
  obtain ⟨vs, h1, h2, h3⟩ := h.row
  obtain ⟨A', n', eb, _⟩ := Kd.Q_slice (h2 b hb4)
  have cb' : w.cell? ⟨p, 1 + b, none⟩ = some (vs b) := by
    rw [blk_cell h1]
    exact arr5 _ vs b hb4
  have evb : vs b = .slice A (L b).length n := Option.some.inj (cb'.symm.trans cb)
  have fb := blk_frozen h1 (1 + b)
  have H := Aside0.mk h
  have H1 := Aside0.mk h1
  have H2 := Aside0.mk h2
  have H3 := Aside0.mk h3
  have EV := Aside0.mk evb
  have hs := hB.size
  clear h h1 h2 h3 cb' eb evb
  have b0 : (0 : Int) ≤ (b : Int) := by omega
  have b1 : (b : Int) < 4 := by omega
  unfold refV
  go_enter Try.func17, Try.ntmps17
  go_wp2_with fail
  obtain ⟨hb1, x0, x1⟩ := boxed w (.int .i64 x.f0) (.int .i64 x.f1) 0
  have hsz : w.heap.size + 1 ≤ ((w.alloc (.cells #[.int .i64 x.f0, .int .i64 x.f1] 33)).drewN 0).heap.size := by show w.heap.size + 1 ≤ (w.alloc (.cells #[.int .i64 x.f0, .int .i64 x.f1] 33)).heap.size; simp
  have hn0 : (w.alloc (.cells #[.int .i64 x.f0, .int .i64 x.f1] 33)).drewN 0 = w.alloc (.cells #[.int .i64 x.f0, .int .i64 x.f1] 33) := rfl
  rw [hn0] at hb1 x0 x1 hsz
  clear hn0
  generalize w.alloc (.cells #[.int .i64 x.f0, .int .i64 x.f1] 33) = w1 at *
  have d0 := (hb1.cell (p := ⟨p, 0, none⟩) hp).trans c0
  have db := (hb1.cell (p := ⟨p, 1 + b, none⟩) hp).trans cb
  have gb := (hb1.frozen (p := ⟨p, 1 + b, none⟩) hp).trans fb
  have HB := Aside0.mk hb1
  clear hb1 c0 cb fb
  go_region_held3 (fun w' => w'.cell? ⟨p, 0, none⟩ = some (.int .i64 c)) (first | exact d0 | go_keep)
    ((go_at_call 24; refine (lenb_calls (H.out.below (below_drew HB.out)) ht).mono ?_; rintro e w2 ⟨rfl, rfl⟩))
  go_wp2_with fail
  have h1' := blk_below H1.out HB.out
  have OB := Aside0.mk (blk_drew (blk_drew h1'))
  have NE : Aside0 (some p ≠ (Value.slice A (L b).length n).ownBlock) := ⟨fun e => H.out.out (by have := (H2.out b hb4).1 p; rw [EV.out] at this; exact this e.symm)⟩
  have QB : Aside0 (Kd.Q k33 33 w1.drew.drew w0.heap.size F (.slice A (L b).length n) (L b)) := ⟨by have := H2.out b hb4; rw [EV.out] at this; exact Kd.Q_drew (Kd.Q_drew (Kd.Q_below this HB.out))⟩
  have CB : Aside0 (#[Value.int .i64 c, vs 0, vs 1, vs 2, vs 3][1 + b]? = some (.slice A (L b).length n)) := ⟨by rw [← EV.out]; exact arr5 _ vs b hb4⟩
  have db' := (Below.cell (below_alloc (Below.refl w1.heap.size w1) (.cells #[.int .i64 x.f0, .int .i64 x.f1] 33)) (p := ⟨p, 1 + b, none⟩) (Nat.lt_of_lt_of_le hp HB.out.size)).trans db
  clear h1'
  go_region_law (first | (refine Kd.Q_append_step k33 (W := w1.drew.drew) w0.heap.size (by rfl) _ _ 44 33 (.agg #[.int .i64 0, .int .i64 0]) 16 (by rfl) Try.underlying44 info33 (by rfl) (by decide) (by decide) (.slice A (L b).length n) (L b) x [.int .i64 x.f0, .int .i64 x.f1] F (fun _ => False) (by rfl) (by rfl) (k33_mkM _ _ _ _) (fun _ h => h.elim) (fun k hk => H.out.fresh k (Nat.le_trans HB.out.size hk)) QB.out (below_drew (below_drew (below_then hB hs HB.out))) (Nat.le_trans hs HB.out.size) (by omega) ?_; intro v1 w2 hown hbn hg1 hat; obtain ⟨A1, n1, rfl, _⟩ := Kd.Q_slice hown; have o1 := blk_grown OB.out hg1 NE.out; have q1 := (blk_cell o1 (1 + b)).trans CB.out; have qf := blk_frozen o1 (1 + b); clear o1))
  all_goals
    go_wp2_with fail
    go_ret
    obtain ⟨e1, e2, e3⟩ := band_leaves (b := b) H.out hb4 H1.out H2.out H3.out (below_drew (below_drew HB.out)) (by rw [EV.out]; exact hg1) hbn hown (by rw [EV.out]; exact hat.imp id (fun ⟨k, q1, q2⟩ => ⟨k, q1, Nat.le_trans HB.out.size q2⟩))
    rw [List.length_append, List.length_singleton] at e1 e2 e3
    exact ⟨rfl, e1, e2, e3⟩

set_option maxHeartbeats 1000000 in
set_option maxRecDepth 100000 in
theorem listb_nil (b : Int) (w : World) : Calls Try.prog 23 #[.pointer none, .int .i64 b] w fun e w' => e = .returned (.slice none 0 0) ∧ w = w' := by
  go_enter Try.func23, Try.ntmps23
  go_wp2_with fail
  go_ret
  exact ⟨rfl, rfl⟩

set_option maxHeartbeats 1000000 in
set_option maxRecDepth 100000 in
theorem listb_bad (p : Nat) (b : Int) (w : World) (hb : ¬ (0 ≤ b ∧ b < 4)) : Calls Try.prog 23 #[.pointer (some ⟨p, 0, none⟩), .int .i64 b] w fun e w' => e = .returned (.slice none 0 0) ∧ Below w.heap.size w w' := by
  by_cases h0 : b < 0
  · have t1 : decide (b < 0) = true := decide_eq_true h0
    go_enter Try.func23, Try.ntmps23
    go_wp2_with fail
    go_ret
    exact ⟨rfl, Below.refl _ _⟩
  · have t1 : decide (b < 0) = false := decide_eq_false h0
    have t2 : decide (b ≥ 4) = true := decide_eq_true (by omega)
    go_enter Try.func23, Try.ntmps23
    go_wp2_with fail
    go_ret
    exact ⟨rfl, Below.refl _ _⟩

set_option maxHeartbeats 1000000 in
set_option maxRecDepth 100000 in
theorem listb_ok {w0 w : World} {p b : Nat} {c : Int} {F : Nat → Prop} {L : Nat → List S33} (h : Ij 55 w0 w p c F L) (hb4 : b < 4) (ht : tot L ≤ 1000000) :
    Calls Try.prog 23 #[.pointer (some ⟨p, 0, none⟩), .int .i64 b] w fun e w' => ∃ v, e = .returned v ∧ Kd.R k33 33 w' w.heap.size (fun _ => True) v (L b) ∧ Below w.heap.size w w' := by
  have t1 : decide ((b : Int) < 0) = false := decide_eq_false (by omega)
  have t2 : decide ((b : Int) ≥ 4) = false := decide_eq_false (by omega)
  have hl := tot_le L b hb4
  obtain ⟨A, n, cb⟩ := h.cell b hb4
  obtain ⟨vs, h1, h2, h3⟩ := h.row
  have cb' : w.cell? ⟨p, 1 + b, none⟩ = some (vs b) := by
    rw [blk_cell h1]
    exact arr5 _ vs b hb4
  have evb : vs b = .slice A (L b).length n := Option.some.inj (cb'.symm.trans cb)
  have HC : Aside0 (Kd.C k33 w A (L b).length (L b)) := ⟨by have := h2 b hb4; rw [evb] at this; exact (Kd.Q_reads' this).2.2⟩
  clear h h1 h2 h3 cb' evb
  have b0 : (0 : Int) ≤ (b : Int) := by omega
  have b1 : (b : Int) < 4 := by omega
  go_enter Try.func23, Try.ntmps23
  go_wp2_with (at_builtin; refine Kd.R_append_rows k33 (w0 := w) w.heap.size rfl _ _ 44 33 (.agg #[.int .i64 0, .int .i64 0]) 16 rfl Try.underlying44 info33 rfl (by decide) (by decide) (.slice none 0 0) [] (L b) A (L b).length n (fun _ => True) (fun _ => False) rfl rfl (Kd.R_nil _ _ _ _ _) HC.out (fun y cs hy => km _ _ _ _ y cs hy) (fun _ hk => hk.elim) (fun _ _ => trivial) (Below.refl _ _) (Nat.le_refl _) (by simp; omega) ?_; intro v1 w1 hown hb1 hg1 hat)
  go_ret
  exact ⟨v1, rfl, hown, hb1⟩


end Go.Proofs.Ytfneiocgjoalkaa.Rf
