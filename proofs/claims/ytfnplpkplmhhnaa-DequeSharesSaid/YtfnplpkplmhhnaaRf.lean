/- The methods of the reference's deque, walked. -/
import Derived.Test.YtfnplpkplmhhnaaDq4
import Derived.Deep.RegionLaw
namespace Go.Proofs.Ytfnplpkplmhhnaa.Rf
open Go.RowKit Go.Proofs.YtfnplpkplmhhnaaW.PrintWords Go.Proofs.YtfnplpkplmhhnaaW.PrintLast Go.Proofs.YtfnplpkplmhhnaaW.PrintMore
open Go.Proofs.Ytfnplpkplmhhnaa.PDequeFollows (S32 k32 info32 k32_mkM rd_T32 at_T32 z32 tilefarmref23_Without.calls tilefarmref23_Without.f)
open Go.Proofs.Ytfnplpkplmhhnaa.Dq (boxed keep refV)
set_option linter.unusedVariables false

/-- The reference's deque at block p: capacity c, the tasks l; F: which blocks its row may be. -/
structure Rf (w0 w : World) (p : Nat) (c : Int) (F : Nat → Prop) (l : List S32) : Prop where
  row : ∃ v, w.heap[p]? = some (.cells #[.int .i64 c, v] 50 (0, 0)) ∧ Kd.R k32 32 w w0.heap.size F v l
  pw : w0.heap.size ≤ p
  out : ¬ F p
  fresh : ∀ k, w.heap.size ≤ k → F k

theorem Rf.kept {w0 w w1 : World} {p : Nat} {c : Int} {F S : Nat → Prop} {l : List S32} (h : Rf w0 w p c F l) (hk : Kept w w1 S) (hp : ¬ S p) (hS : ∀ k, F k → ¬ S k) : Rf w0 w1 p c F l := by
  obtain ⟨v, h1, h2⟩ := h.row
  exact ⟨⟨v, blk_kept h1 hk hp, Kd.R_kept h2 hk hS⟩, h.pw, h.out, fun k hk' => h.fresh k (Nat.le_trans hk.1 hk')⟩

theorem Rf.below {w0 w w1 : World} {p : Nat} {c : Int} {F : Nat → Prop} {l : List S32} (h : Rf w0 w p c F l) (hb : Below w.heap.size w w1) : Rf w0 w1 p c F l :=
  h.kept (Kept.of_below hb (fun _ => False)) id (fun _ _ => id)

/-- A new row is stored into the field. -/
theorem store_row {w0 w w1 : World} {p : Nat} {c : Int} {F : Nat → Prop} {l : List S32} {u v : Value} (pw : w0.heap.size ≤ p) (out : ¬ F p) (ho : w1.heap[p]? = some (.cells #[.int .i64 c, u] 50 (0, 0)))
    (hr : Kd.R k32 32 w1 w0.heap.size F v l) (hB : Below w0.heap.size w0 w1) (hk : Kept w w1 (fun k => k = p ∨ F k)) (fresh : ∀ k, w1.heap.size ≤ k → F k) :
    Rf w0 (w1.setCell ⟨p, 1, none⟩ v) p c F l ∧ Below w0.heap.size w0 (w1.setCell ⟨p, 1, none⟩ v) ∧ Kept w (w1.setCell ⟨p, 1, none⟩ v) (fun k => k = p ∨ F k) := by
  refine ⟨⟨⟨v, by simpa using blk_set ho 1 v, Kd.R_far hr (p := ⟨p, 1, none⟩) (fun k hk e => out (by rw [← show k = p from e]; exact hk)) _⟩, pw, out, fun k hk => fresh k (by simpa [World.setCell] using hk)⟩, ?_, ?_⟩
  · exact hB.setCell (by exact pw) _
  · exact hk.setCell (.inl (.inl rfl)) _

set_option maxHeartbeats 1000000 in
set_option maxRecDepth 100000 in
theorem new_bad (c : Int) (h : c < 1 ∨ 256 < c) (w : World) : Calls Try.prog 15 #[.int .i64 c] w fun e w' => e = .returned (.tuple #[.pointer none, .int .i64 2]) ∧ w = w' := by
  by_cases h1 : c < 1
  · go_enter Try.func15, Try.ntmps15
    go_wp2_with fail
    go_ret2
    exact ⟨rfl, rfl⟩
  · have h2 : 256 < c := by omega
    have h3 : decide (c < 1) = false := decide_eq_false h1
    go_enter Try.func15, Try.ntmps15
    go_wp2_with fail
    go_ret2
    exact ⟨rfl, rfl⟩

set_option maxHeartbeats 1000000 in
set_option maxRecDepth 100000 in
theorem new_ok {w0 w : World} (c : Nat) (h1 : 1 ≤ c) (h2 : c ≤ 256) (hB : Below w0.heap.size w0 w) : Calls Try.prog 15 #[.int .i64 (c : Int)] w fun e w' =>
    ∃ p, e = .returned (.tuple #[.pointer (some ⟨p, 0, none⟩), .int .i64 0]) ∧ Rf w0 w' p c (fun k => k ≠ p ∧ w.heap.size ≤ k) [] ∧ w.heap.size ≤ p ∧ Below w.heap.size w w' := by
  have h3 : decide ((c : Int) < 1) = false := decide_eq_false (by omega)
  have h4 : decide ((c : Int) > 256) = false := decide_eq_false (by omega)
  go_enter Try.func15, Try.ntmps15
  go_wp2_with fail
  go_ret2
  have o1 := blk_new w (.cells #[.int .i64 (c : Int), .slice none 0 0] 50)
  have hw := hB.size
  exact ⟨_, rfl, ⟨⟨_, o1, Kd.R_nil _ _ _ _ _⟩, hw, fun h => h.1 rfl, fun k hk => by simp at hk; omega⟩, by omega, below_alloc (Below.refl _ _) _⟩

set_option maxHeartbeats 1000000 in
set_option maxRecDepth 100000 in
theorem push_nil (a b : Int) (w : World) : Calls Try.prog 17 #[.pointer none, .agg #[.int .i64 a, .int .i64 b]] w fun e w' => e = .returned (.int .i64 20) ∧ Below w.heap.size w w' := by
  go_enter Try.func17, Try.ntmps17
  go_wp2_with fail
  go_ret
  exact ⟨rfl, below_alloc (Below.refl _ _) _⟩

set_option maxHeartbeats 1000000 in
set_option maxRecDepth 100000 in
theorem push_full {w0 w : World} {p : Nat} {c : Int} {F : Nat → Prop} {l : List S32} (a b : Int) (h : Rf w0 w p c F l) (hc : 1 ≤ c) (hl : c ≤ l.length) :
    Calls Try.prog 17 #[.pointer (some ⟨p, 0, none⟩), .agg #[.int .i64 a, .int .i64 b]] w fun e w' => e = .returned (.int .i64 19) ∧ Below w.heap.size w w' := by
  obtain ⟨v, h1, h2⟩ := h.row
  obtain ⟨A, n, rfl⟩ := Kd.R_slice h2
  have hp := blk_lt h1
  have c0 := (blk_cell h1 0).trans rfl
  have c1 := (blk_cell h1 1).trans rfl
  have hz : (c == 0) = false := beq_eq_false_iff_ne.mpr (by omega)
  clear h h1 h2
  go_enter Try.func17, Try.ntmps17
  go_wp2_with fail
  go_quiet (fail)
  go_wp2_with fail
  go_ret
  exact ⟨rfl, by repeat (first | exact Below.refl _ _ | apply below_alloc | apply pw_below_drewN)⟩

set_option maxHeartbeats 1000000 in
set_option maxRecDepth 100000 in
theorem push_ok {w0 w : World} {p : Nat} {c : Int} {F : Nat → Prop} {l : List S32} (x : S32) (h : Rf w0 w p c F l) (hB : Below w0.heap.size w0 w) (hl : l.length < c) (hc : c ≤ 256) :
    Calls Try.prog 17 #[.pointer (some ⟨p, 0, none⟩), .agg #[.int .i64 x.f0, .int .i64 x.f1]] w fun e w' => e = .returned (.int .i64 0) ∧ Rf w0 w' p c F (l ++ [x]) ∧ Below w0.heap.size w0 w' ∧ Kept w w' (fun k => k = p ∨ F k) := by
  obtain ⟨v, h1, h2⟩ := h.row
  obtain ⟨A, n, rfl⟩ := Kd.R_slice h2
  have hp := blk_lt h1
  have hz : (c == 0) = false := beq_eq_false_iff_ne.mpr (by omega)
  have c0 := (blk_cell h1 0).trans rfl
  have c1 := (blk_cell h1 1).trans rfl
  have H1 := Aside0.mk h1
  have H2 := Aside0.mk h2
  clear h1 h2
  go_enter Try.func17, Try.ntmps17
  go_wp2_with fail
  go_quiet (fail)
  go_wp2_with fail
  obtain ⟨hb, b0, b1⟩ := boxed w (.int .i64 x.f0) (.int .i64 x.f1) nq
  generalize hW : (w.alloc (.cells #[.int .i64 x.f0, .int .i64 x.f1] 32)).drewN nq = W at *
  clear hW
  have c1 := (hb.cell (p := ⟨p, 1, none⟩) hp).trans c1
  have np : ¬ p = w.heap.size := by omega
  have hs := hb.size
  have c1' := (Below.cell (below_alloc (Below.refl W.heap.size W) (.cells #[.int .i64 x.f0, .int .i64 x.f1] 32)) (p := ⟨p, 1, none⟩) (Nat.lt_of_lt_of_le hp hs)).trans c1
  have OB := Aside0.mk (blk_below H1.out hb)
  have NE : Aside0 (some p ≠ (Value.slice A l.length n).ownBlock) := ⟨fun e => h.out (H2.out.1 p e.symm)⟩
  go_region_law (first | (refine Kd.R_append_step k32 (W := W.drew) w0.heap.size (by rfl) _ _ 43 32 (.agg #[.int .i64 0, .int .i64 0]) 16 (by rfl) Try.underlying43 info32 (by rfl) (by decide) (by decide) (.slice A l.length n) l x [.int .i64 x.f0, .int .i64 x.f1] F (fun _ => False) (by rfl) (by rfl) (k32_mkM _ _ _ _) (fun _ h => h.elim) (fun k hk => h.fresh k (Nat.le_trans hs hk)) (Kd.R_drew (Kd.R_below H2.out hb)) (below_drew (below_then hB hB.size hb)) (Nat.le_trans hB.size hs) (by omega) ?_; intro v1 w1 hown hb1 hg1 hat; obtain ⟨A1, n1, rfl⟩ := Kd.R_slice hown; have o1 := blk_grown (blk_drew OB.out) hg1 NE.out; have O1 := Aside0.mk o1; have q1 := (blk_cell o1 1).trans rfl; have qf := blk_frozen o1 1; clear o1))
  all_goals
    go_wp2_with fail
    go_ret
    have kW : Kept w w1 (fun k => k = p ∨ F k) := Kept.of_grown hg1 ((Kept.of_below hb _).drew) (fun k hk => .inl (.inr (H2.out.1 k hk)))
    obtain ⟨e1, e2, e3⟩ := store_row h.pw h.out O1.out hown hb1 kW (fun k hk => h.fresh k (Nat.le_trans kW.1 hk))
    rw [List.length_append, List.length_singleton] at e1 e2 e3
    exact ⟨rfl, e1, e2, e3⟩

end Go.Proofs.Ytfnplpkplmhhnaa.Rf
