/- Push, Pop, List of the program's injector and slices.Clone, walked. -/
import Derived.Test.YtfneiocgjoalkaaIj
namespace Go.Proofs.Ytfneiocgjoalkaa.Ij
open Go.RowKit Go.Proofs.YtfneiocgjoalkaaW.PrintWords Go.Proofs.YtfneiocgjoalkaaW.PrintLast Go.Proofs.YtfneiocgjoalkaaW.PrintMore
open Go.Proofs.Ytfneiocgjoalkaa.PInjectorFollows
set_option linter.unusedVariables false
attribute [local go_sem] idx0 idx1 idx2 idx3

theorem arr5 (c : Value) (vs : Nat → Value) (b : Nat) (hb : b < 4) : #[c, vs 0, vs 1, vs 2, vs 3][1 + b]? = some (vs b) := by
  match b, hb with
  | 0, _ => rfl
  | 1, _ => rfl
  | 2, _ => rfl
  | 3, _ => rfl

theorem band_is (b : Int) : injector_band.f b = some (decide (0 ≤ b ∧ b < 4)) := by
  unfold injector_band.f
  split
  · rename_i h
    simp only [Option.some.injEq]
    by_cases h2 : b < 4
    · rw [decide_eq_true h2, decide_eq_true ⟨h, h2⟩]
    · rw [decide_eq_false h2, decide_eq_false (fun hh => h2 hh.2)]
  · rename_i h
    simp only [Option.some.injEq]
    rw [decide_eq_false (fun hh => h hh.1)]

set_option maxHeartbeats 1000000 in
set_option maxRecDepth 100000 in
theorem push_nil (x : S33) (b : Int) (w : World) : Calls Try.prog 10 #[.pointer none, refV x, .int .i64 b] w fun e w' => e = .returned (.int .i64 20) ∧ Below w.heap.size w w' := by
  unfold refV
  go_enter Try.func10, Try.ntmps10
  go_wp2_with fail
  go_ret
  exact ⟨rfl, below_alloc (Below.refl _ _) _⟩

set_option maxHeartbeats 1000000 in
set_option maxRecDepth 100000 in
/-- The zero injector. -/
theorem push_zero (p : Nat) (x : S33) (b : Int) (w : World) (hp : p < w.heap.size) (hc0 : w.cell? ⟨p, 0, none⟩ = some (.int .i64 0)) : Calls Try.prog 10 #[.pointer (some ⟨p, 0, none⟩), refV x, .int .i64 b] w fun e w' => e = .returned (.int .i64 20) ∧ Below w.heap.size w w' := by
  have hlt : w.heap.size = p ↔ False := ⟨fun h => by omega, False.elim⟩
  unfold refV
  go_enter Try.func10, Try.ntmps10
  go_wp2_with fail
  go_ret
  exact ⟨rfl, below_alloc (Below.refl _ _) _⟩

set_option maxHeartbeats 1000000 in
set_option maxRecDepth 100000 in
theorem push_range {w0 w : World} {p : Nat} {c : Int} {F : Nat → Prop} {L : Nat → List S33} (x : S33) (b : Int) (h : Ij 49 w0 w p c F L) (hc : 1 ≤ c) (hb : ¬ (0 ≤ b ∧ b < 4)) :
    Calls Try.prog 10 #[.pointer (some ⟨p, 0, none⟩), refV x, .int .i64 b] w fun e w' => e = .returned (.int .i64 2) ∧ Below w.heap.size w w' := by
  have hp := h.lt
  have c0 := h.c0
  have hz : (c == 0) = false := beq_eq_false_iff_ne.mpr (by omega)
  have hlt : w.heap.size = p ↔ False := ⟨fun h => by omega, False.elim⟩
  have hd := (band_is b).trans (congrArg some (decide_eq_false hb))
  have HD := Aside0.mk hd
  clear h hd
  unfold refV
  go_enter Try.func10, Try.ntmps10
  go_wp2_with fail
  refine (injector_band.calls b false _ HD.out).mono ?_
  rintro e w1 ⟨rfl, hd⟩
  have HB := Aside0.mk (below_then (below_alloc (Below.refl w.heap.size w) (.cells #[.int .i64 x.f0, .int .i64 x.f1] 33)) (by simp) hd.below)
  clear hd
  go_wp2_with fail
  go_ret
  exact ⟨rfl, HB.out⟩

set_option maxHeartbeats 1000000 in
set_option maxRecDepth 100000 in
theorem push_full {w0 w : World} {p : Nat} {c : Int} {F : Nat → Prop} {L : Nat → List S33} (x : S33) (b : Int) (h : Ij 49 w0 w p c F L) (hc : 1 ≤ c) (hb : 0 ≤ b ∧ b < 4) (ht : tot L ≤ 1000000) (hl : c ≤ tot L) :
    Calls Try.prog 10 #[.pointer (some ⟨p, 0, none⟩), refV x, .int .i64 b] w fun e w' => e = .returned (.int .i64 19) ∧ Below w.heap.size w w' := by
  have hp := h.lt
  have c0 := h.c0
  have hz : (c == 0) = false := beq_eq_false_iff_ne.mpr (by omega)
  have hlt : w.heap.size = p ↔ False := ⟨fun h => by omega, False.elim⟩
  have hd := (band_is b).trans (congrArg some (decide_eq_true hb))
  have HD := Aside0.mk hd
  have H := Aside0.mk h
  clear h hd
  unfold refV
  go_enter Try.func10, Try.ntmps10
  go_wp2_with fail
  refine (injector_band.calls b true _ HD.out).mono ?_
  rintro e w1 ⟨rfl, hd⟩
  have hb1 := below_then (below_alloc (Below.refl w.heap.size w) (.cells #[.int .i64 x.f0, .int .i64 x.f1] 33)) (by simp) hd.below
  have HB := Aside0.mk hb1
  have d0 := (hb1.cell (p := ⟨p, 0, none⟩) hp).trans c0
  clear hd hb1 HD
  go_wp2_with fail
  go_region_held3 (fun w' => w'.cell? ⟨p, 0, none⟩ = some (.int .i64 c)) (first | exact d0 | go_keep)
    ((go_at_call 12; refine (len_calls (H.out.below (below_drew HB.out)) ht).mono ?_; rintro e w2 ⟨rfl, rfl⟩))
  go_wp2_with fail
  go_ret
  exact ⟨rfl, below_drew HB.out⟩

set_option maxHeartbeats 1000000 in
set_option maxRecDepth 100000 in
theorem push_ok {w0 w : World} {p b : Nat} {c : Int} {F : Nat → Prop} {L : Nat → List S33} (x : S33) (h : Ij 49 w0 w p c F L) (hB : Below w0.heap.size w0 w) (hb4 : b < 4) (ht : tot L ≤ 1000000) (hl : tot L < c) :
    Calls Try.prog 10 #[.pointer (some ⟨p, 0, none⟩), refV x, .int .i64 b] w fun e w' => e = .returned (.int .i64 0) ∧ Ij 49 w0 w' p c F (upd L b (L b ++ [x])) ∧ Below w0.heap.size w0 w' ∧ Kept w w' (fun k => k = p ∨ F k) := by
  have hp := h.lt
  have c0 := h.c0
  have hz : (c == 0) = false := beq_eq_false_iff_ne.mpr (by omega)
  have hlt : w.heap.size = p ↔ False := ⟨fun h => by omega, False.elim⟩
  have hd := (band_is b).trans (congrArg some (decide_eq_true (by omega)))
  have hl2 := tot_le L b hb4
  obtain ⟨A, n, cb⟩ := h.cell b hb4
  obtain ⟨vs, h1, h2, h3⟩ := h.row
  obtain ⟨A', n', eb, _⟩ := Kd.Q_slice (h2 b hb4)
  have cb' : w.cell? ⟨p, 1 + b, none⟩ = some (vs b) := by
    rw [blk_cell h1]
    exact arr5 _ vs b hb4
  have evb : vs b = .slice A (L b).length n := Option.some.inj (cb'.symm.trans cb)
  have fb := blk_frozen h1 (1 + b)
  have HD := Aside0.mk hd
  have H := Aside0.mk h
  have H1 := Aside0.mk h1
  have H2 := Aside0.mk h2
  have H3 := Aside0.mk h3
  have EV := Aside0.mk evb
  have hs := hB.size
  clear h hd h1 h2 h3 cb' eb evb
  have b0 : (0 : Int) ≤ (b : Int) := by omega
  have b1 : (b : Int) < 4 := by omega
  unfold refV
  go_enter Try.func10, Try.ntmps10
  go_wp2_with fail
  refine (injector_band.calls b true _ HD.out).mono ?_
  rintro e w1 ⟨rfl, hd⟩
  obtain ⟨hbx, x0, x1⟩ := boxed w (.int .i64 x.f0) (.int .i64 x.f1) 0
  have hb1 := below_then hbx hbx.size hd.below
  have hxs : w.heap.size < (w.alloc (.cells #[.int .i64 x.f0, .int .i64 x.f1] 33)).heap.size := by simp
  have x0 := (hd.below.cell (p := ⟨w.heap.size, 0, none⟩) hxs).trans x0
  have x1 := (hd.below.cell (p := ⟨w.heap.size, 1, none⟩) hxs).trans x1
  have d0 := (hb1.cell (p := ⟨p, 0, none⟩) hp).trans c0
  have db := (hb1.cell (p := ⟨p, 1 + b, none⟩) hp).trans cb
  have gb := (hb1.frozen (p := ⟨p, 1 + b, none⟩) hp).trans fb
  have HB := Aside0.mk hb1
  have hsz : w.heap.size + 1 ≤ w1.heap.size := by have := hd.below.size; simp at this; omega
  clear hd hb1 HD hbx c0 cb fb hxs
  go_wp2_with fail
  go_region_held3 (fun w' => w'.cell? ⟨p, 0, none⟩ = some (.int .i64 c)) (first | exact d0 | go_keep)
    ((go_at_call 12; refine (len_calls (H.out.below (below_drew HB.out)) ht).mono ?_; rintro e w2 ⟨rfl, rfl⟩))
  go_wp2_with fail
  have h1' := blk_below H1.out HB.out
  have OB := Aside0.mk (blk_drew (blk_drew h1'))
  have NE : Aside0 (some p ≠ (Value.slice A (L b).length n).ownBlock) := ⟨fun e => H.out.out (by have := (H2.out b hb4).1 p; rw [EV.out] at this; exact this e.symm)⟩
  have QB : Aside0 (Kd.Q k33 33 w1.drew.drew w0.heap.size F (.slice A (L b).length n) (L b)) := ⟨by have := H2.out b hb4; rw [EV.out] at this; exact Kd.Q_drew (Kd.Q_drew (Kd.Q_below this HB.out))⟩
  have CB : Aside0 (#[Value.int .i64 c, vs 0, vs 1, vs 2, vs 3][1 + b]? = some (.slice A (L b).length n)) := ⟨by rw [← EV.out]; exact arr5 _ vs b hb4⟩
  have db' := (Below.cell (below_alloc (Below.refl w1.heap.size w1) (.cells #[.int .i64 x.f0, .int .i64 x.f1] 33)) (p := ⟨p, 1 + b, none⟩) (Nat.lt_of_lt_of_le hp HB.out.size)).trans db
  clear h1'
  go_region_law (first | (refine Kd.Q_append_step k33 (W := w1.drew.drew) w0.heap.size (by rfl) _ _ 44 33 (.agg #[.int .i64 0, .int .i64 0]) 16 (by rfl) Try.underlying44 info33 (by rfl) (by decide) (by decide) (.slice A (L b).length n) (L b) x [.int .i64 x.f0, .int .i64 x.f1] F (fun _ => False) (by rfl) (by rfl) (k33_mkM _ _ _ _) (fun _ h => h.elim) (fun k hk => H.out.fresh k (Nat.le_trans HB.out.size hk)) QB.out (below_drew (below_drew (below_then hB hs HB.out))) (Nat.le_trans hs HB.out.size) (by omega) ?_; intro v1 w2 hown hbn hg1 hat; obtain ⟨A1, n1, rfl, _⟩ := Kd.Q_slice hown; have o1 := blk_grown OB.out hg1 NE.out; have q1 := (blk_cell o1 (1 + b)).trans CB.out; have qf := blk_frozen o1 (1 + b); clear o1))
  all_goals
    go_wp2_with fail
    go_ret
    obtain ⟨e1, e2, e3⟩ := band_leaves (b := b) H.out hb4 H1.out H2.out H3.out (below_drew (below_drew HB.out)) (by rw [EV.out]; exact hg1) hbn hown (by rw [EV.out]; exact hat.imp id (fun ⟨k, q1, q2⟩ => ⟨k, q1, Nat.le_trans HB.out.size q2⟩))
    rw [List.length_append, List.length_singleton] at e1 e2 e3
    exact ⟨rfl, e1, e2, e3⟩

end Go.Proofs.Ytfneiocgjoalkaa.Ij
