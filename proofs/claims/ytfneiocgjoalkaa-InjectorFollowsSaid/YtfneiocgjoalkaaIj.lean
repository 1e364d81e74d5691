/- An injector over four bands: its state, and New, Len, Push of the program's, walked. -/
import Derived.Test.YtfneiocgjoalkaaPInjectorFollowsx2
import Derived.StillTailTactics
import Derived.Deep.RegionLaw
import Derived.BigRegion
namespace Go.Proofs.Ytfneiocgjoalkaa.Ij
open Go.RowKit Go.Proofs.YtfneiocgjoalkaaW.PrintWords Go.Proofs.YtfneiocgjoalkaaW.PrintLast Go.Proofs.YtfneiocgjoalkaaW.PrintMore
open Go.Proofs.Ytfneiocgjoalkaa.PInjectorFollows
set_option linter.unusedVariables false

def refV (x : S33) : Value := .agg #[.int .i64 x.f0, .int .i64 x.f1]
def upd {α : Type} (f : Nat → α) (b : Nat) (x : α) : Nat → α := fun j => if j = b then x else f j
theorem upd_self {α : Type} (f : Nat → α) (b : Nat) (x : α) : upd f b x b = x := if_pos rfl
theorem upd_ne {α : Type} (f : Nat → α) {b j : Nat} (x : α) (h : j ≠ b) : upd f b x j = f j := if_neg h

/-- Two rows lie in different blocks. -/
def Sep (u v : Value) : Prop := ∀ k, u.ownBlock = some k → some k ≠ v.ownBlock
theorem Sep.symm {u v : Value} (h : Sep u v) : Sep v u := fun k h1 h2 => h k h2.symm h1.symm

/-- An injector at block p, of type T: capacity c, the bands L; F: which blocks the bands' rows may be. -/
structure Ij (T : TypeId) (w0 w : World) (p : Nat) (c : Int) (F : Nat → Prop) (L : Nat → List S33) : Prop where
  row : ∃ vs : Nat → Value, w.heap[p]? = some (.cells #[.int .i64 c, vs 0, vs 1, vs 2, vs 3] T (0, 0)) ∧ (∀ b, b < 4 → Kd.Q k33 33 w w0.heap.size F (vs b) (L b)) ∧ (∀ i j, i < 4 → j < 4 → i ≠ j → Sep (vs i) (vs j))
  pw : w0.heap.size ≤ p
  out : ¬ F p
  fresh : ∀ k, w.heap.size ≤ k → F k

section
variable {T : TypeId} {w0 w w1 : World} {p : Nat} {c : Int} {F S : Nat → Prop} {L : Nat → List S33}
theorem Ij.kept (h : Ij T w0 w p c F L) (hk : Kept w w1 S) (hp : ¬ S p) (hS : ∀ k, F k → ¬ S k) : Ij T w0 w1 p c F L := by
  obtain ⟨vs, h1, h2, h3⟩ := h.row
  exact ⟨⟨vs, blk_kept h1 hk hp, fun b hb => Kd.Q_kept (h2 b hb) hk hS, h3⟩, h.pw, h.out, fun k hk' => h.fresh k (Nat.le_trans hk.1 hk')⟩
theorem Ij.below (h : Ij T w0 w p c F L) (hb : Below w.heap.size w w1) : Ij T w0 w1 p c F L :=
  h.kept (Kept.of_below hb (fun _ => False)) id (fun _ _ => id)
theorem Ij.drew (h : Ij T w0 w p c F L) : Ij T w0 w.drew p c F L := h.below (below_drew (Below.refl _ _))
theorem Ij.lt (h : Ij T w0 w p c F L) : p < w.heap.size := by obtain ⟨v, h1, h2⟩ := h.row; exact blk_lt h1
theorem Ij.c0 (h : Ij T w0 w p c F L) : w.cell? ⟨p, 0, none⟩ = some (.int .i64 c) := by obtain ⟨v, h1, h2⟩ := h.row; exact (blk_cell h1 0).trans rfl
theorem Ij.cell (h : Ij T w0 w p c F L) (b : Nat) (hb : b < 4) : ∃ A n, w.cell? ⟨p, 1 + b, none⟩ = some (.slice A (L b).length n) := by
  obtain ⟨v, h1, h2, _⟩ := h.row
  obtain ⟨A, n, e, _⟩ := Kd.Q_slice (h2 b hb)
  refine ⟨A, n, ?_⟩
  rw [← e, blk_cell h1]
  match b, hb with
  | 0, _ => rfl
  | 1, _ => rfl
  | 2, _ => rfl
  | 3, _ => rfl
end

theorem set_band (c : Value) (vs : Nat → Value) (b : Nat) (hb : b < 4) (v : Value) : #[c, vs 0, vs 1, vs 2, vs 3].setIfInBounds (1 + b) v = #[c, upd vs b v 0, upd vs b v 1, upd vs b v 2, upd vs b v 3] := by
  match b, hb with
  | 0, _ => rfl
  | 1, _ => rfl
  | 2, _ => rfl
  | 3, _ => rfl

/-- A new row is stored into a band. -/
theorem store_band {T : TypeId} {w0 w w1 : World} {p b : Nat} {c : Int} {F : Nat → Prop} {L : Nat → List S33} {vs : Nat → Value} {v : Value} {xs : List S33} (hb4 : b < 4) (pw : w0.heap.size ≤ p) (out : ¬ F p)
    (ho : w1.heap[p]? = some (.cells #[.int .i64 c, vs 0, vs 1, vs 2, vs 3] T (0, 0))) (hr : ∀ j, j < 4 → j ≠ b → Kd.Q k33 33 w1 w0.heap.size F (vs j) (L j)) (hs : ∀ i j, i < 4 → j < 4 → i ≠ j → i ≠ b → j ≠ b → Sep (vs i) (vs j))
    (hv : Kd.Q k33 33 w1 w0.heap.size F v xs) (hvs : ∀ j, j < 4 → j ≠ b → Sep v (vs j)) (hB : Below w0.heap.size w0 w1) (hk : Kept w w1 (fun k => k = p ∨ F k)) (fresh : ∀ k, w1.heap.size ≤ k → F k) :
    Ij T w0 (w1.setCell ⟨p, 1 + b, none⟩ v) p c F (upd L b xs) ∧ Below w0.heap.size w0 (w1.setCell ⟨p, 1 + b, none⟩ v) ∧ Kept w (w1.setCell ⟨p, 1 + b, none⟩ v) (fun k => k = p ∨ F k) := by
  have far : ∀ {u : Value} {ys : List S33}, Kd.Q k33 33 w1 w0.heap.size F u ys → Kd.Q k33 33 (w1.setCell ⟨p, 1 + b, none⟩ v) w0.heap.size F u ys := fun h =>
    Kd.Q_far h (p := ⟨p, 1 + b, none⟩) (fun k hk e => out (by rw [← show k = p from e]; exact hk)) _
  refine ⟨⟨⟨upd vs b v, ?_, fun j hj => ?_, fun i j hi hj hij => ?_⟩, pw, out, fun k hk => fresh k (by simpa [World.setCell] using hk)⟩, ?_, ?_⟩
  · have := blk_set ho (1 + b) v
    rwa [set_band _ _ _ hb4] at this
  · by_cases e : j = b
    · subst e; rw [upd_self, upd_self]; exact far hv
    · rw [upd_ne _ _ e, upd_ne _ _ e]; exact far (hr j hj e)
  · by_cases e : i = b
    · subst e; rw [upd_self, upd_ne _ _ (Ne.symm hij)]; exact hvs j hj (Ne.symm hij)
    · rw [upd_ne _ _ e]
      by_cases e2 : j = b
      · subst e2; rw [upd_self]; exact (hvs i hi e).symm
      · rw [upd_ne _ _ e2]; exact hs i j hi hj hij e e2
  · exact hB.setCell (by exact pw) _
  · exact hk.setCell (.inl (.inl rfl)) _

/-- A new row for one band, made so that at most its own block and new ones turned. -/
theorem band_leaves {T : TypeId} {w0 w W w1 : World} {p b : Nat} {c : Int} {F : Nat → Prop} {L : Nat → List S33} {vs : Nat → Value} {v1 : Value} {xs : List S33} (h : Ij T w0 w p c F L) (hb4 : b < 4)
    (h1 : w.heap[p]? = some (.cells #[.int .i64 c, vs 0, vs 1, vs 2, vs 3] T (0, 0))) (h2 : ∀ b, b < 4 → Kd.Q k33 33 w w0.heap.size F (vs b) (L b)) (h3 : ∀ i j, i < 4 → j < 4 → i ≠ j → Sep (vs i) (vs j))
    (hW : Below w.heap.size w W) (hg : W.grownBy w1 (vs b).ownBlock) (hB : Below w0.heap.size w0 w1) (hv : Kd.Q k33 33 w1 w0.heap.size F v1 xs)
    (hat : v1.ownBlock = (vs b).ownBlock ∨ ∃ k, v1.ownBlock = some k ∧ w.heap.size ≤ k) :
    Ij T w0 (w1.setCell ⟨p, 1 + b, none⟩ v1) p c F (upd L b xs) ∧ Below w0.heap.size w0 (w1.setCell ⟨p, 1 + b, none⟩ v1) ∧ Kept w (w1.setCell ⟨p, 1 + b, none⟩ v1) (fun k => k = p ∨ F k) := by
  have kW : Kept w w1 (fun k => k = p ∨ F k) := Kept.of_grown hg (Kept.of_below hW _) (fun k hk => .inl (.inr ((h2 b hb4).1 k hk)))
  have ne : some p ≠ (vs b).ownBlock := fun e => h.out ((h2 b hb4).1 p e.symm)
  refine store_band hb4 h.pw h.out (blk_grown (blk_below h1 hW) hg ne) (fun j hj e => ?_) (fun i j hi hj hij _ _ => h3 i j hi hj hij) hv (fun j hj e k e1 e2 => ?_) hB kW (fun k hk => h.fresh k (Nat.le_trans kW.1 hk))
  · exact Kd.Q_grown2 (Kd.Q_below (h2 j hj) hW) rfl hg (h3 b j hb4 hj (Ne.symm e))
  · rcases hat with hat | ⟨q, hq, hle⟩
    · exact h3 b j hb4 hj (Ne.symm e) k (hat ▸ e1) e2
    · rw [hq] at e1
      injection e1 with e1
      subst e1
      have := Kd.Q_lt (h2 j hj) q e2.symm
      omega

def tot (L : Nat → List S33) : Nat := (L 0).length + (L 1).length + (L 2).length + (L 3).length

theorem tot_upd (L : Nat → List S33) (b : Nat) (hb : b < 4) (xs : List S33) : tot (upd L b xs) + (L b).length = tot L + xs.length := by
  match b, hb with
  | 0, _ => simp [tot, upd]; omega
  | 1, _ => simp [tot, upd]; omega
  | 2, _ => simp [tot, upd]; omega
  | 3, _ => simp [tot, upd]; omega
theorem tot_le (L : Nat → List S33) (b : Nat) (hb : b < 4) : (L b).length ≤ tot L := by
  match b, hb with
  | 0, _ => simp [tot]; omega
  | 1, _ => simp [tot]; omega
  | 2, _ => simp [tot]; omega
  | 3, _ => simp [tot]

def pre (a0 a1 a2 a3 k : Nat) : Nat := match k with | 0 => 0 | 1 => a0 | 2 => a0 + a1 | 3 => a0 + a1 + a2 | _ => a0 + a1 + a2 + a3

theorem boxed (w : World) (u v : Value) (n : Nat) : Below w.heap.size w ((w.alloc (.cells #[u, v] 33)).drewN n) ∧
    ((w.alloc (.cells #[u, v] 33)).drewN n).cell? ⟨w.heap.size, 0, none⟩ = some u ∧ ((w.alloc (.cells #[u, v] 33)).drewN n).cell? ⟨w.heap.size, 1, none⟩ = some v :=
  ⟨pw_below_drewN (below_alloc (Below.refl _ _) _) n, blk_cell (blk_new w _) 0, blk_cell (blk_new w _) 1⟩

/-! ### The program's -/
theorem idx0 (a b c d : Value) (w : World) : Sem.run Try.prog (Instr.index 47 (.agg #[a, b, c, d]) (.int .i64 0)) w = .ok a w := by kernel_rfl
theorem idx1 (a b c d : Value) (w : World) : Sem.run Try.prog (Instr.index 47 (.agg #[a, b, c, d]) (.int .i64 1)) w = .ok b w := by kernel_rfl
theorem idx2 (a b c d : Value) (w : World) : Sem.run Try.prog (Instr.index 47 (.agg #[a, b, c, d]) (.int .i64 2)) w = .ok c w := by kernel_rfl
theorem idx3 (a b c d : Value) (w : World) : Sem.run Try.prog (Instr.index 47 (.agg #[a, b, c, d]) (.int .i64 3)) w = .ok d w := by kernel_rfl
attribute [local go_sem] idx0 idx1 idx2 idx3
set_option maxHeartbeats 1000000 in
set_option maxRecDepth 100000 in
theorem new_bad (c : Int) (h : c < 1 ∨ 4096 < c) (w : World) : Calls Try.prog 7 #[.int .i64 c] w fun e w' => e = .returned (.tuple #[.pointer none, .int .i64 2]) ∧ w = w' := by
  by_cases h1 : c < 1
  · go_enter Try.func7, Try.ntmps7
    go_wp2_with fail
    go_ret2
    exact ⟨rfl, rfl⟩
  · have h2 : 4096 < c := by omega
    have h3 : decide (c < 1) = false := decide_eq_false h1
    go_enter Try.func7, Try.ntmps7
    go_wp2_with fail
    go_ret2
    exact ⟨rfl, rfl⟩

theorem ij_new (T : TypeId) {w0 w : World} (c : Int) (hB : Below w0.heap.size w0 w) : Ij T w0 (w.alloc (.cells #[.int .i64 c, .slice none 0 0, .slice none 0 0, .slice none 0 0, .slice none 0 0] T)) w.heap.size c (fun k => k ≠ w.heap.size ∧ w.heap.size ≤ k) (fun _ => []) := by
  have hw := hB.size
  exact ⟨⟨fun _ => .slice none 0 0, blk_new w _, fun b _ => Kd.Q_nil _ _ _ _ _, fun i j _ _ _ k h1 => by simp [Value.ownBlock] at h1⟩, hw, fun h => h.1 rfl, fun k hk => by simp at hk; omega⟩

set_option maxHeartbeats 1000000 in
set_option maxRecDepth 100000 in
theorem new_ok {w0 w : World} (c : Int) (h1 : 1 ≤ c) (h2 : c ≤ 4096) (hB : Below w0.heap.size w0 w) : Calls Try.prog 7 #[.int .i64 c] w fun e w' =>
    ∃ p, e = .returned (.tuple #[.pointer (some ⟨p, 0, none⟩), .int .i64 0]) ∧ Ij 49 w0 w' p c (fun k => k ≠ p ∧ w.heap.size ≤ k) (fun _ => []) ∧ w.heap.size ≤ p ∧ Below w.heap.size w w' := by
  have h3 : decide (c < 1) = false := decide_eq_false (by omega)
  have h4 : decide (c > 4096) = false := decide_eq_false (by omega)
  go_enter Try.func7, Try.ntmps7
  go_wp2_with fail
  go_ret2
  exact ⟨_, rfl, ij_new 49 c hB, by omega, below_alloc (Below.refl _ _) _⟩

set_option maxHeartbeats 1000000 in
set_option maxRecDepth 100000 in
theorem len_nil (w : World) : Calls Try.prog 12 #[.pointer none] w fun e w' => e = .returned (.int .i64 0) ∧ w = w' := by
  go_enter Try.func12, Try.ntmps12
  go_wp2_with fail
  go_ret
  exact ⟨rfl, rfl⟩

set_option maxHeartbeats 1000000 in
set_option maxRecDepth 100000 in
theorem len_cells (p a0 a1 a2 a3 n0 n1 n2 n3 : Nat) (A0 A1 A2 A3 : Option Addr) (w : World) (hs : a0 + a1 + a2 + a3 ≤ 1000000)
    (h0 : w.cell? ⟨p, 1, none⟩ = some (.slice A0 a0 n0)) (h1 : w.cell? ⟨p, 2, none⟩ = some (.slice A1 a1 n1)) (h2 : w.cell? ⟨p, 3, none⟩ = some (.slice A2 a2 n2)) (h3 : w.cell? ⟨p, 4, none⟩ = some (.slice A3 a3 n3)) :
    Calls Try.prog 12 #[.pointer (some ⟨p, 0, none⟩)] w fun e w' => e = .returned (.int .i64 ((a0 + a1 + a2 + a3 : Nat) : Int)) ∧ w = w' := by
  go_enter Try.func12, Try.ntmps12
  go_wp2_with fail
  go_loopw [3, 12] (fun v3 v12 wr => ∃ k : Nat, k ≤ 4 ∧ v3 = .int .i64 (pre a0 a1 a2 a3 k : Nat) ∧ v12 = .int .i64 (k : Int) ∧ w = wr) (fun _ i _ => 4 - (intOf i).toNat)
  case atStart => exact ⟨0, by omega, rfl, rfl, rfl⟩
  case round =>
    obtain ⟨k, hk, rfl, rfl, rfl⟩ := hrel
    rcases (by omega : k = 0 ∨ k = 1 ∨ k = 2 ∨ k = 3 ∨ k = 4) with rfl | rfl | rfl | rfl | rfl
    · simp only [pre]
      go_wp2_with fail
      go_roundw
      case rel => exact ⟨1, by omega, by simp, by go_num, trivial⟩
      case measure => simp [intOf]
    · simp only [pre]
      go_wp2_with fail
      go_roundw
      case rel => exact ⟨2, by omega, by simp, by go_num, trivial⟩
      case measure => simp [intOf]
    · simp only [pre]
      go_wp2_with fail
      go_roundw
      case rel => exact ⟨3, by omega, by simp, by go_num, trivial⟩
      case measure => simp [intOf]
    · simp only [pre]
      go_wp2_with fail
      go_roundw
      case rel => exact ⟨4, by omega, by simp, by go_num, trivial⟩
      case measure => simp [intOf]
    · go_wp2_with fail
      go_ret
      exact ⟨rfl, rfl⟩

theorem len_calls {w0 w : World} {p : Nat} {c : Int} {F : Nat → Prop} {L : Nat → List S33} (h : Ij 49 w0 w p c F L) (hs : tot L ≤ 1000000) :
    Calls Try.prog 12 #[.pointer (some ⟨p, 0, none⟩)] w fun e w' => e = .returned (.int .i64 (tot L)) ∧ w = w' := by
  obtain ⟨A0, n0, h0⟩ := h.cell 0 (by omega)
  obtain ⟨A1, n1, h1⟩ := h.cell 1 (by omega)
  obtain ⟨A2, n2, h2⟩ := h.cell 2 (by omega)
  obtain ⟨A3, n3, h3⟩ := h.cell 3 (by omega)
  exact len_cells p _ _ _ _ n0 n1 n2 n3 A0 A1 A2 A3 w hs h0 h1 h2 h3

end Go.Proofs.Ytfneiocgjoalkaa.Ij
