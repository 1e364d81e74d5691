/- Pop and List of the program's injector and slices.Clone, walked. -/
import Derived.Test.YtfneiocgjoalkaaIj2
import Derived.WalkSpells
namespace Go.Proofs.Ytfneiocgjoalkaa.Ij
open Go.RowKit Go.Proofs.YtfneiocgjoalkaaW.PrintWords Go.Proofs.YtfneiocgjoalkaaW.PrintLast Go.Proofs.YtfneiocgjoalkaaW.PrintMore
open Go.Proofs.Ytfneiocgjoalkaa.PInjectorFollows
set_option linter.unusedVariables false
attribute [local go_sem] idx0 idx1 idx2 idx3

theorem km (w : World) (base : Nat) (ok : Nat → Prop) (w1 : World) (x : S33) (cs : List Value) (h : k33.K w1 x cs) : k33.M w base ok x cs := by
  obtain rfl := k33_open h
  exact k33_mkM _ _ _ _

theorem R_empty (w : World) : Kd.R k33 33 (w.alloc (.cells #[] 33)) w.heap.size (fun _ => True) (.slice (some ⟨w.heap.size, 0, none⟩) 0 0) [] :=
  ⟨fun _ _ => trivial, [], by simpa using World.ownsRow_lit (base := w.heap.size) (e := 33) (size := k33.sz) w #[] 0 (Nat.le_refl _) (by simp [maxLen]) (by simp), Reps.none _ _⟩

theorem eqs_nil (w : World) (n c : Nat) : Sem.run Try.prog (binOp BinOp.eql 44 (.slice none n c) (.slice none 0 0)) w = .ok (.bool true) w := by
  rw [Go.Lib.run_eql_slice_nil w 44 33 none n c 0 0 Try.underlying44]; rfl
theorem eqs_some (w : World) (ad : Addr) (n c : Nat) : Sem.run Try.prog (binOp BinOp.eql 44 (.slice (some ad) n c) (.slice none 0 0)) w = .ok (.bool false) w := by
  rw [Go.Lib.run_eql_slice_nil w 44 33 (some ad) n c 0 0 Try.underlying44]; rfl
attribute [local go_sem] eqs_nil eqs_some

set_option maxHeartbeats 1000000 in
set_option maxRecDepth 100000 in
theorem clone_nil (n c : Nat) (w : World) : Calls Try.prog 27 #[.slice none n c] w fun e w' => e = .returned (.slice none 0 0) ∧ w = w' := by
  go_enter Try.func27, Try.ntmps27
  go_wp2_with fail
  go_ret
  exact ⟨rfl, rfl⟩

set_option maxHeartbeats 1000000 in
set_option maxRecDepth 100000 in
theorem clone_some {w : World} {ad : Addr} {l : List S33} {c : Nat} (h : Kd.C k33 w (some ad) l.length l) (hl : l.length ≤ 1000000) :
    Calls Try.prog 27 #[.slice (some ad) l.length c] w fun e w' => ∃ v, e = .returned v ∧ Kd.R k33 33 w' w.heap.size (fun _ => True) v l ∧ Below w.heap.size w w' := by
  have H := Aside0.mk h
  clear h
  have HR := Aside0.mk (R_empty w)
  have HB := Aside0.mk (below_alloc (Below.refl w.heap.size w) (.cells #[] 33))
  go_enter Try.func27, Try.ntmps27
  go_wp2_with (at_builtin; refine Kd.R_append_rows k33 (w0 := w) (W := w.alloc (.cells #[] 33)) w.heap.size rfl _ _ 44 33 (.agg #[.int .i64 0, .int .i64 0]) 16 rfl Try.underlying44 info33 rfl (by decide) (by decide) (.slice (some ⟨w.heap.size, 0, none⟩) 0 0) [] l (some ad) l.length c (fun _ => True) (fun _ => False) rfl rfl HR.out (Kd.C_below H.out HB.out) (fun y cs hy => km _ _ _ _ y cs hy) (fun _ hk => hk.elim) (fun _ _ => trivial) HB.out HB.out.size (by simp; omega) ?_; intro v1 w1 hown hb1 hg1 hat)
  go_ret
  exact ⟨_, rfl, hown, hb1⟩

theorem clone_calls {w : World} {A : Option Addr} {l : List S33} {c : Nat} (h : Kd.C k33 w A l.length l) (hl : l.length ≤ 1000000) :
    Calls Try.prog 27 #[.slice A l.length c] w fun e w' => ∃ v, e = .returned v ∧ Kd.R k33 33 w' w.heap.size (fun _ => True) v l ∧ Below w.heap.size w w' := by
  cases A with
  | some ad => exact clone_some h hl
  | none =>
    have e : l = [] := by
      cases l with
      | nil => rfl
      | cons x l =>
        obtain ⟨ad, e, _⟩ := at_T33 h 0 (by omega) (by simp)
        simp at e
    subst e
    refine (clone_nil _ _ w).mono ?_
    rintro e w' ⟨rfl, rfl⟩
    exact ⟨_, rfl, Kd.R_nil _ _ _ _ _, Below.refl _ _⟩

set_option maxHeartbeats 1000000 in
set_option maxRecDepth 100000 in
theorem list_nil (b : Int) (w : World) : Calls Try.prog 22 #[.pointer none, .int .i64 b] w fun e w' => e = .returned (.slice none 0 0) ∧ w = w' := by
  go_enter Try.func22, Try.ntmps22
  go_wp2_with fail
  go_ret
  exact ⟨rfl, rfl⟩

set_option maxHeartbeats 1000000 in
set_option maxRecDepth 100000 in
theorem list_bad (p : Nat) (b : Int) (w : World) (hb : ¬ (0 ≤ b ∧ b < 4)) : Calls Try.prog 22 #[.pointer (some ⟨p, 0, none⟩), .int .i64 b] w fun e w' => e = .returned (.slice none 0 0) ∧ Below w.heap.size w w' := by
  have hd := (band_is b).trans (congrArg some (decide_eq_false hb))
  go_enter Try.func22, Try.ntmps22
  go_wp2_with (go_at_call 25; refine (injector_band.calls b false _ hd).mono ?_; rintro e w1 ⟨rfl, hd2⟩)
  go_ret
  exact ⟨rfl, hd2.below⟩

set_option maxHeartbeats 1000000 in
set_option maxRecDepth 100000 in
theorem list_ok {w0 w : World} {p b : Nat} {c : Int} {F : Nat → Prop} {L : Nat → List S33} (h : Ij 49 w0 w p c F L) (hb4 : b < 4) (ht : tot L ≤ 1000000) :
    Calls Try.prog 22 #[.pointer (some ⟨p, 0, none⟩), .int .i64 b] w fun e w' => ∃ v, e = .returned v ∧ Kd.R k33 33 w' w.heap.size (fun _ => True) v (L b) ∧ Below w.heap.size w w' := by
  have hd := (band_is b).trans (congrArg some (decide_eq_true (by omega)))
  have hl := tot_le L b hb4
  obtain ⟨A, n, cb⟩ := h.cell b hb4
  obtain ⟨vs, h1, h2, h3⟩ := h.row
  have cb' : w.cell? ⟨p, 1 + b, none⟩ = some (vs b) := by
    rw [blk_cell h1]
    exact arr5 _ vs b hb4
  have evb : vs b = .slice A (L b).length n := Option.some.inj (cb'.symm.trans cb)
  have HC : Aside0 (Kd.C k33 w A (L b).length (L b)) := ⟨by have := h2 b hb4; rw [evb] at this; exact (Kd.Q_reads' this).2.2⟩
  have hp := h.lt
  clear h h1 h2 h3 cb' evb
  have b0 : (0 : Int) ≤ (b : Int) := by omega
  have b1 : (b : Int) < 4 := by omega
  go_enter Try.func22, Try.ntmps22
  go_wp2_with (go_at_call 25; refine (injector_band.calls b true _ hd).mono ?_; rintro e w1 ⟨rfl, hd2⟩; have cb1 := (hd2.below.cell (p := ⟨p, 1 + b, none⟩) hp).trans cb)
  have HB := Aside0.mk hd2.below
  clear hd2
  refine (clone_calls (Kd.C_below HC.out HB.out) (by omega)).mono ?_
  rintro e w2 ⟨v, rfl, r, bl⟩
  have R := Aside0.mk (Kd.R_lower r HB.out.size)
  have B := Aside0.mk (below_then HB.out HB.out.size bl)
  clear r bl
  go_wp2_with fail
  go_ret
  exact ⟨v, rfl, R.out, B.out⟩

end Go.Proofs.Ytfneiocgjoalkaa.Ij
