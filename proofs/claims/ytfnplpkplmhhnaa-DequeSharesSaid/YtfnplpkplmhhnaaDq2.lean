/- Pop and Steal of the program's deque, walked. -/
import Derived.Test.YtfnplpkplmhhnaaDq
namespace Go.Proofs.Ytfnplpkplmhhnaa.Dq
open Go.RowKit Go.Proofs.YtfnplpkplmhhnaaW.PrintWords Go.Proofs.YtfnplpkplmhhnaaW.PrintLast Go.Proofs.YtfnplpkplmhhnaaW.PrintMore
open Go.Proofs.Ytfnplpkplmhhnaa.PDequeFollows (S32 k32)
set_option linter.unusedVariables false

abbrev refV (x : S32) : Value := .agg #[.int .i64 x.f0, .int .i64 x.f1]

set_option maxHeartbeats 1000000 in
set_option maxRecDepth 100000 in
theorem pop_nil (w : World) : Calls Try.prog 11 #[.pointer none] w fun e w' => e = .returned (.tuple #[.agg #[.int .i64 0, .int .i64 0], .bool false]) ∧ Below w.heap.size w w' := by
  go_enter Try.func11, Try.ntmps11
  go_wp2_with (go_at_call 13; refine (len_nil _).mono ?_; rintro e w' ⟨rfl, rfl⟩)
  exact bodyPost_ret (v := .tuple #[.agg #[.int .i64 0, .int .i64 0], .bool false]) (by simp [results, Try.results11, go_sem]) rfl ⟨rfl, below_alloc (Below.refl _ _) _⟩

set_option maxHeartbeats 1000000 in
set_option maxRecDepth 100000 in
theorem pop_none (p : Nat) (w : World) (hp : p < w.heap.size) (hc2 : w.cell? ⟨p, 2, none⟩ = some (.int .i64 0)) : Calls Try.prog 11 #[.pointer (some ⟨p, 0, none⟩)] w fun e w' => e = .returned (.tuple #[.agg #[.int .i64 0, .int .i64 0], .bool false]) ∧ Below w.heap.size w w' := by
  go_enter Try.func11, Try.ntmps11
  go_wp2_with fail
  refine (len_calls p 0 _ ((Below.cell (below_alloc (Below.refl _ _) _) (p := ⟨p, 2, none⟩) hp).trans hc2)).mono ?_
  rintro e w' ⟨rfl, rfl⟩
  go_wp2_with fail
  exact bodyPost_ret (v := .tuple #[.agg #[.int .i64 0, .int .i64 0], .bool false]) (by simp [results, Try.results11, go_sem]) rfl ⟨rfl, below_alloc (Below.refl _ _) _⟩

theorem steal_nil (w : World) : Calls Try.prog 12 #[.pointer none] w fun e w' => e = .returned (.tuple #[.agg #[.int .i64 0, .int .i64 0], .bool false]) ∧ Below w.heap.size w w' := by
  go_enter Try.func12, Try.ntmps12
  go_wp2_with (go_at_call 13; refine (len_nil _).mono ?_; rintro e w' ⟨rfl, rfl⟩)
  exact bodyPost_ret (v := .tuple #[.agg #[.int .i64 0, .int .i64 0], .bool false]) (by simp [results, Try.results12, go_sem]) rfl ⟨rfl, below_alloc (Below.refl _ _) _⟩

theorem steal_none (p : Nat) (w : World) (hp : p < w.heap.size) (hc2 : w.cell? ⟨p, 2, none⟩ = some (.int .i64 0)) : Calls Try.prog 12 #[.pointer (some ⟨p, 0, none⟩)] w fun e w' => e = .returned (.tuple #[.agg #[.int .i64 0, .int .i64 0], .bool false]) ∧ Below w.heap.size w w' := by
  go_enter Try.func12, Try.ntmps12
  go_wp2_with fail
  refine (len_calls p 0 _ ((Below.cell (below_alloc (Below.refl _ _) _) (p := ⟨p, 2, none⟩) hp).trans hc2)).mono ?_
  rintro e w' ⟨rfl, rfl⟩
  go_wp2_with fail
  exact bodyPost_ret (v := .tuple #[.agg #[.int .i64 0, .int .i64 0], .bool false]) (by simp [results, Try.results12, go_sem]) rfl ⟨rfl, below_alloc (Below.refl _ _) _⟩

/-- The world behind 'd.size--' in Pop: the result's own block is laid, the size is less by one. -/
theorem pop_mid {w0 w : World} {p g c t : Nat} {l : List S32} {x : S32} (h : Dq w0 w p g c t (l ++ [x])) (hB : Below w0.heap.size w0 w) :
    ∃ W, (w.setCell ⟨p, 2, none⟩ (.int .i64 l.length)).alloc (.cells #[.int .i64 0, .int .i64 0] 32) = W ∧ Dq w0 W p g c t l ∧ Below w0.heap.size w0 W ∧ Kept w W (fun k => k = p ∨ k = g) ∧
      W.heap[w.heap.size]? = some (.cells #[.int .i64 0, .int .i64 0] 32 (0, 0)) ∧
      W.cell? ⟨g, (t + l.length) % c * 2, none⟩ = some (.int .i64 x.f0) ∧ W.cell? ⟨g, (t + l.length) % c * 2 + 1, none⟩ = some (.int .i64 x.f1) := by
  refine ⟨_, rfl, ?_⟩
  obtain ⟨cur, r1, r2, r3⟩ := h.ring
  have hp := blk_lt h.obj
  have hg := blk_lt r1
  have hl := h.len
  have hs : (w.setCell ⟨p, 2, none⟩ (.int .i64 l.length)).heap.size = w.heap.size := by simp [World.setCell]
  have hn := blk_new (w.setCell ⟨p, 2, none⟩ (.int .i64 l.length)) (.cells #[.int .i64 0, .int .i64 0] 32)
  rw [hs] at hn
  have o1 := blk_alloc (blk_set h.obj 2 (.int .i64 l.length)) (.cells #[.int .i64 0, .int .i64 0] 32)
  have o2 := blk_alloc (blk_far r1 (p := ⟨p, 2, none⟩) (Ne.symm h.ne) (.int .i64 l.length)) (.cells #[.int .i64 0, .int .i64 0] 32)
  have hx := r3 l.length x (by simp)
  refine ⟨⟨by simpa using o1, ⟨cur, o2, r2, fun i y hi => r3 i y ?_⟩, h.pw, h.gw, h.ne, h.cap, h.top, by simp at hl; omega⟩, ?_, ?_, hn, (blk_cell o2 _).trans hx.1, (blk_cell o2 _).trans hx.2⟩
  · rw [List.getElem?_append_left (List.getElem?_eq_some_iff.1 hi).1]; exact hi
  · exact (hB.setCell (by exact h.pw) _).alloc (by rw [hs]; exact hB.size) _
  · exact ((Kept.refl w _).setCell (.inl (.inl rfl)) _).alloc _

/-- The result is laid into its own block. -/
theorem res_leaves {w0 w W : World} {p g c t : Nat} {l : List S32} (x : S32) (d : Dq w0 W p g c t l) (bW : Below w0.heap.size w0 W) (kW : Kept w W (fun k => k = p ∨ k = g))
    (nW : W.heap[w.heap.size]? = some (.cells #[.int .i64 0, .int .i64 0] 32 (0, 0))) (hp : p < w.heap.size) (hg : g < w.heap.size) :
    Dq w0 ((W.setCell ⟨w.heap.size, 0, none⟩ (.int .i64 x.f0)).setCell ⟨w.heap.size, 1, none⟩ (.int .i64 x.f1)) p g c t l ∧
    Below w0.heap.size w0 ((W.setCell ⟨w.heap.size, 0, none⟩ (.int .i64 x.f0)).setCell ⟨w.heap.size, 1, none⟩ (.int .i64 x.f1)) ∧
    Kept w ((W.setCell ⟨w.heap.size, 0, none⟩ (.int .i64 x.f0)).setCell ⟨w.heap.size, 1, none⟩ (.int .i64 x.f1)) (fun k => k = p ∨ k = g) ∧
    ((W.setCell ⟨w.heap.size, 0, none⟩ (.int .i64 x.f0)).setCell ⟨w.heap.size, 1, none⟩ (.int .i64 x.f1)).heap[w.heap.size]? = some (.cells #[.int .i64 x.f0, .int .i64 x.f1] 32 (0, 0)) := by
  have k0 : Kept W W (fun k => k = w.heap.size) := Kept.refl W _
  have k1 := (k0.setCell (p := ⟨w.heap.size, 0, none⟩) (.inl rfl) (.int .i64 x.f0)).setCell (p := ⟨w.heap.size, 1, none⟩) (.inl rfl) (.int .i64 x.f1)
  have hw : w0.heap.size ≤ w.heap.size := by have := d.pw; omega
  refine ⟨d.kept k1 (Nat.ne_of_lt hp) (Nat.ne_of_lt hg), ?_, ?_, ?_⟩
  · exact (bW.setCell hw _).setCell hw _
  · exact (kW.setCell (.inr (Nat.le_refl _)) _).setCell (.inr (Nat.le_refl _)) _
  · simpa using blk_set (blk_set nW 0 (.int .i64 x.f0)) 1 (.int .i64 x.f1)

theorem Dq.drewN {w0 w : World} {p g c t : Nat} {l : List S32} (h : Dq w0 w p g c t l) (m : Nat) : Dq w0 (w.drewN m) p g c t l :=
  ⟨h.obj, h.ring, h.pw, h.gw, h.ne, h.cap, h.top, h.len⟩

/-- The world behind the two stores in Steal. -/
theorem steal_leaves {w0 w W : World} {p g c t : Nat} {l : List S32} {x : S32} (h : Dq w0 W p g c t (x :: l)) (hB : Below w0.heap.size w0 W) (hk : Kept w W (fun k => k = p ∨ k = g)) :
    Dq w0 ((W.setCell ⟨p, 1, none⟩ (.int .i64 (((t + 1) % c : Nat) : Int))).setCell ⟨p, 2, none⟩ (.int .i64 l.length)) p g c ((t + 1) % c) l ∧
    Below w0.heap.size w0 ((W.setCell ⟨p, 1, none⟩ (.int .i64 (((t + 1) % c : Nat) : Int))).setCell ⟨p, 2, none⟩ (.int .i64 l.length)) ∧
    Kept w ((W.setCell ⟨p, 1, none⟩ (.int .i64 (((t + 1) % c : Nat) : Int))).setCell ⟨p, 2, none⟩ (.int .i64 l.length)) (fun k => k = p ∨ k = g) := by
  obtain ⟨cur, r1, r2, r3⟩ := h.ring
  have hl := h.len
  have hc := h.cap
  have o1 := blk_set (blk_set h.obj 1 (.int .i64 (((t + 1) % c : Nat) : Int))) 2 (.int .i64 l.length)
  have o2 := blk_far (blk_far r1 (p := ⟨p, 1, none⟩) (Ne.symm h.ne) (.int .i64 (((t + 1) % c : Nat) : Int))) (p := ⟨p, 2, none⟩) (Ne.symm h.ne) (.int .i64 l.length)
  refine ⟨⟨by simpa using o1, ⟨cur, o2, r2, fun i y hi => ?_⟩, h.pw, h.gw, h.ne, hc, Nat.mod_lt _ (by omega), by simp at hl; omega⟩, ?_, ?_⟩
  · have := r3 (i + 1) y (by simpa using hi)
    rw [show t + (i + 1) = (t + 1) + i by omega] at this
    rw [Nat.mod_add_mod]
    exact this
  · exact (hB.setCell (by exact h.pw) _).setCell (by exact h.pw) _
  · exact (hk.setCell (.inl (.inl rfl)) _).setCell (.inl (.inl rfl)) _

set_option maxHeartbeats 1000000 in
set_option maxRecDepth 100000 in
theorem pop_ok {w0 w : World} {p g c t : Nat} {l : List S32} {x : S32} (h : Dq w0 w p g c t (l ++ [x])) (hB : Below w0.heap.size w0 w) :
    Calls Try.prog 11 #[.pointer (some ⟨p, 0, none⟩)] w fun e w' => e = .returned (.tuple #[refV x, .bool true]) ∧ Dq w0 w' p g c t l ∧ Below w0.heap.size w0 w' ∧ Kept w w' (fun k => k = p ∨ k = g) := by
  have h2 := h.c2
  have f2 : w.frozen? ⟨p, 2, none⟩ = false := blk_frozen h.obj _
  have hp := blk_lt h.obj
  have hl := h.len
  rw [List.length_append, List.length_singleton] at h2 hl
  rw [Int.natCast_add, Int.natCast_one] at h2
  obtain ⟨hc, hc'⟩ := h.cap
  have ht := h.top
  have HG : Aside0 (g < w.heap.size) := by obtain ⟨cur, r1, _⟩ := h.ring; exact ⟨blk_lt r1⟩
  obtain ⟨W, hW, d, bW, kW, nW, x0, x1⟩ := pop_mid h hB
  have HW := Aside0.mk hW
  clear hW h
  generalize hn : l.length = n at *
  have Hn := Aside0.mk hn
  clear hn
  have hz : ((n : Int) + 1 == 0) = false := beq_eq_false_iff_ne.mpr (by omega)
  have hm : (t + n) % c < c := Nat.mod_lt _ (by omega)
  generalize hq : (t + n) % c = q at *
  have Hq := Aside0.mk hq
  clear hq
  have hm0 : (0 : Int) ≤ (q : Int) := Int.natCast_nonneg _
  have hm1 : (q : Int) < (c : Int) := by omega
  go_enter Try.func11, Try.ntmps11
  go_wp2_with fail
  refine (len_calls p (n + 1) _ ((Below.cell (below_alloc (Below.refl _ _) _) (p := ⟨p, 2, none⟩) hp).trans h2)).mono ?_
  rintro e w' ⟨rfl, rfl⟩
  go_wp2_with fail
  rw [HW.out]
  have h0 := d.c0
  have h1 := d.c1
  have h2 := d.c2
  rw [Hn.out] at h2
  have y0 := (blk_cell nW 0).trans rfl
  have y1 := (blk_cell nW 1).trans rfl
  have z0 := blk_frozen nW 0
  have z1 := blk_frozen nW 1
  have hg : g < w.heap.size := HG.out
  have ng : ¬ g = w.heap.size := by omega
  have np : ¬ p = w.heap.size := by omega
  have ng' : ¬ w.heap.size = g := fun e => ng e.symm
  have np' : ¬ w.heap.size = p := fun e => np e.symm
  go_region_held3 (fun w' => w'.cell? ⟨p, 0, none⟩ = some (.slice (some ⟨g, 0, none⟩) c c) ∧ w'.cell? ⟨p, 1, none⟩ = some (.int .i64 t) ∧ w'.cell? ⟨p, 2, none⟩ = some (.int .i64 n) ∧ w'.cell? ⟨g, q * 2, none⟩ = some (.int .i64 x.f0) ∧ w'.cell? ⟨g, q * 2 + 1, none⟩ = some (.int .i64 x.f1))
    (first | exact ⟨h0, h1, h2, x0, x1⟩ | go_keep)
    ((go_at_call 28; go_split_ands; refine (at_calls p g c t n q _ Hq.out (by assumption) (by assumption) hc hc' ht (by omega)).mono ?_; rintro e w' ⟨rfl, nd, rfl⟩))
  go_wp2_with fail
  obtain ⟨e1, e2, e3, e4⟩ := res_leaves x (d.drewN (1 + nd)) (pw_below_drewN bW (1 + nd)) (kW.drewN (1 + nd)) (blk_drewN nW (1 + nd)) hp HG.out
  exact bodyPost_ret (v := .tuple #[refV x, .bool true]) (results_ct Try.results11 _ _ w.heap.size 32 _ (0, 0) _ rfl e4 Try.underlying32 rfl (by kernel_rfl)) rfl ⟨rfl, e1, e2, e3⟩

/-- The world behind 'r := d.ring[d.top]' in Steal: the result's own block and the variable's are laid. -/
theorem steal_mid {w0 w : World} {p g c t : Nat} {l : List S32} {x : S32} (h : Dq w0 w p g c t (x :: l)) :
    w.cell? ⟨g, t * 2, none⟩ = some (.int .i64 x.f0) ∧ w.cell? ⟨g, t * 2 + 1, none⟩ = some (.int .i64 x.f1) := by
  obtain ⟨cur, r1, r2, r3⟩ := h.ring
  have hx := r3 0 x (by simp)
  rw [Nat.add_zero, Nat.mod_eq_of_lt h.top] at hx
  exact ⟨(blk_cell r1 _).trans hx.1, (blk_cell r1 _).trans hx.2⟩

set_option maxHeartbeats 1000000 in
set_option maxRecDepth 100000 in
theorem steal_ok {w0 w : World} {p g c t : Nat} {l : List S32} {x : S32} (h : Dq w0 w p g c t (x :: l)) (hB : Below w0.heap.size w0 w) :
    Calls Try.prog 12 #[.pointer (some ⟨p, 0, none⟩)] w fun e w' => e = .returned (.tuple #[refV x, .bool true]) ∧ (∃ t', Dq w0 w' p g c t' l) ∧ Below w0.heap.size w0 w' ∧ Kept w w' (fun k => k = p ∨ k = g) := by
  have h0 := h.c0
  have h1 := h.c1
  have h2 := h.c2
  have f1 : w.frozen? ⟨p, 1, none⟩ = false := blk_frozen h.obj _
  have f2 : w.frozen? ⟨p, 2, none⟩ = false := blk_frozen h.obj _
  have hp := blk_lt h.obj
  have hl := h.len
  rw [List.length_cons] at h2 hl
  rw [Int.natCast_add, Int.natCast_one] at h2
  obtain ⟨hc, hc'⟩ := h.cap
  have ht := h.top
  have HG : Aside0 (g < w.heap.size) := by obtain ⟨cur, r1, _⟩ := h.ring; exact ⟨blk_lt r1⟩
  obtain ⟨x0, x1⟩ := steal_mid h
  have H := Aside0.mk h
  clear h
  generalize hn : l.length = n at *
  have Hn := Aside0.mk hn
  clear hn
  have hz : ((n : Int) + 1 == 0) = false := beq_eq_false_iff_ne.mpr (by omega)
  have ht0 : (0 : Int) ≤ (t : Int) := Int.natCast_nonneg _
  have ht1 : (t : Int) < (c : Int) := by omega
  go_enter Try.func12, Try.ntmps12
  go_wp2_with fail
  refine (len_calls p (n + 1) _ ((Below.cell (below_alloc (Below.refl _ _) _) (p := ⟨p, 2, none⟩) hp).trans h2)).mono ?_
  rintro e w' ⟨rfl, rfl⟩
  go_wp2_with fail
  have hg := HG.out
  obtain ⟨hb, hs⟩ : Below w.heap.size w (w.alloc (.cells #[.int .i64 0, .int .i64 0] 32)) ∧ (w.alloc (.cells #[.int .i64 0, .int .i64 0] 32)).heap.size = w.heap.size + 1 := ⟨below_alloc (Below.refl _ _) _, by simp⟩
  have h0 := (hb.cell (p := ⟨p, 0, none⟩) hp).trans h0
  have h1 := (hb.cell (p := ⟨p, 1, none⟩) hp).trans h1
  have h2 := (hb.cell (p := ⟨p, 2, none⟩) hp).trans h2
  have x0 := (hb.cell (p := ⟨g, t * 2, none⟩) hg).trans x0
  have x1 := (hb.cell (p := ⟨g, t * 2 + 1, none⟩) hg).trans x1
  have f1 := (hb.frozen (p := ⟨p, 1, none⟩) hp).trans f1
  have f2 := (hb.frozen (p := ⟨p, 2, none⟩) hp).trans f2
  have m0 := World.new_ne _ _ h0
  have m1 := World.new_ne _ _ h1
  have m2 := World.new_ne _ _ h2
  have m3 := World.new_ne _ _ x0
  have m4 := World.new_ne _ _ x1
  go_region_held3 (fun w' => w'.cell? ⟨p, 0, none⟩ = some (.slice (some ⟨g, 0, none⟩) c c) ∧ w'.cell? ⟨p, 1, none⟩ = some (.int .i64 t) ∧ w'.cell? ⟨p, 2, none⟩ = some (.int .i64 (n + 1)) ∧ w'.cell? ⟨g, t * 2, none⟩ = some (.int .i64 x.f0) ∧ w'.cell? ⟨g, t * 2 + 1, none⟩ = some (.int .i64 x.f1))
    (first | exact ⟨h0, h1, h2, x0, x1⟩ | go_keep)
    (fail)
  go_wp2_with fail
  obtain ⟨W, hW, d, bW, kW, nz, nx⟩ : ∃ W, ((w.alloc (.cells #[.int .i64 0, .int .i64 0] 32)).alloc (.cells #[.int .i64 x.f0, .int .i64 x.f1] 32)).drew = W ∧
      Dq w0 W p g c t (x :: l) ∧ Below w0.heap.size w0 W ∧ Kept w W (fun k => k = p ∨ k = g) ∧ W.heap[w.heap.size]? = some (.cells #[.int .i64 0, .int .i64 0] 32 (0, 0)) ∧ W.heap[w.heap.size + 1]? = some (.cells #[.int .i64 x.f0, .int .i64 x.f1] 32 (0, 0)) := by
    have hb2 : Below w.heap.size w ((w.alloc (.cells #[.int .i64 0, .int .i64 0] 32)).alloc (.cells #[.int .i64 x.f0, .int .i64 x.f1] 32)).drew := below_drew (below_alloc hb _)
    have nz := blk_drew (blk_alloc (blk_new w (.cells #[.int .i64 0, .int .i64 0] 32)) (.cells #[.int .i64 x.f0, .int .i64 x.f1] 32))
    have nx := blk_drew (blk_new (w.alloc (.cells #[.int .i64 0, .int .i64 0] 32)) (.cells #[.int .i64 x.f0, .int .i64 x.f1] 32))
    rw [hs] at nx
    have k2 : Kept w _ (fun _ => False) := Kept.of_below hb2 _
    exact ⟨_, rfl, H.out.kept k2 id id, below_then hB hB.size hb2, Kept.of_below hb2 _, nz, nx⟩
  rw [hW]
  clear hW h0 h1 h2 x0 x1 f1 f2 m0 m1 m2 m3 m4
  have q0 := d.c0
  have q1 := d.c1
  have q2 := d.c2
  rw [List.length_cons, Hn.out, Int.natCast_add, Int.natCast_one] at q2
  have g1 := blk_frozen d.obj 1
  have g2 := blk_frozen d.obj 2
  have r0 := (blk_cell nz 0).trans rfl
  have r1 := (blk_cell nz 1).trans rfl
  have s0 := blk_frozen nz 0
  have s1 := blk_frozen nz 1
  have v0 := (blk_cell nx 0).trans rfl
  have v1 := (blk_cell nx 1).trans rfl
  have np : ¬ p = w.heap.size := by omega
  have np1 : ¬ p = w.heap.size + 1 := by omega
  have np' : ¬ w.heap.size = p := by omega
  have np1' : ¬ w.heap.size + 1 = p := by omega
  refine (at_calls p g c t 1 ((t + 1) % c) _ rfl q0 q1 hc hc' ht (by omega)).mono ?_
  rintro e w' ⟨rfl, nd, rfl⟩
  go_wp2_with fail
  obtain ⟨f1, f2, f3⟩ := steal_leaves (d.drewN nd) (pw_below_drewN bW nd) (kW.drewN nd)
  have nz' := blk_far (blk_far (blk_drewN nz nd) (p := ⟨p, 1, none⟩) (by omega) (.int .i64 (((t + 1) % c : Nat) : Int))) (p := ⟨p, 2, none⟩) (by omega) (.int .i64 l.length)
  obtain ⟨e1, e2, e3, e4⟩ := res_leaves x f1 f2 f3 nz' hp HG.out
  rw [Hn.out] at e1 e2 e3 e4
  have ec : (((t + 1) % c : Nat) : Int) = ((t : Int) + 1) % (c : Int) := by simp
  rw [ec] at e1 e2 e3 e4
  exact bodyPost_ret (v := .tuple #[refV x, .bool true]) (results_ct Try.results12 _ _ w.heap.size 32 _ (0, 0) _ rfl e4 Try.underlying32 rfl (by kernel_rfl)) rfl ⟨rfl, ⟨_, e1⟩, e2, e3⟩

end Go.Proofs.Ytfnplpkplmhhnaa.Dq
