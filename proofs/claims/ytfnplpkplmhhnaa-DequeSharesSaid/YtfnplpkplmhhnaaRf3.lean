/- Steal, Remove, Drain and List of the reference's deque, walked. -/
import Derived.Test.YtfnplpkplmhhnaaRf2
namespace Go.Proofs.Ytfnplpkplmhhnaa.Rf
open Go.RowKit Go.Proofs.YtfnplpkplmhhnaaW.PrintWords Go.Proofs.YtfnplpkplmhhnaaW.PrintLast Go.Proofs.YtfnplpkplmhhnaaW.PrintMore
open Go.Proofs.Ytfnplpkplmhhnaa.PDequeFollows (S32 k32 info32 k32_mkM k32_open rd_T32 at_T32 z32 tilefarmref23_Without.calls tilefarmref23_Without.f)
open Go.Proofs.Ytfnplpkplmhhnaa.Dq (boxed keep refV row_at)
set_option linter.unusedVariables false

/-- 'xs[1:]' of a row. -/
theorem cut1 (A : Option Addr) (n c : Nat) (hc : n + 1 ≤ c) : ∃ A' : Option Addr,
    (∀ W : World, (Instr.slice 43 (.slice A (n + 1) c) (some (.int .i64 1)) none none).run Try.prog W = .ok (.slice A' n (c - 1)) W) ∧
    ∀ (w : World) (x : S32) (l : List S32), Kd.C k32 w A (n + 1) (x :: l) → Kd.C k32 w A' n l := by
  obtain ⟨i0, hi, hz0, hz1, hz2⟩ := info_parts info32
  refine ⟨if c = 1 then A else A.map (·.add (1 * 2)), fun W => ?_, fun w x l h => ?_⟩
  · have h := cut_from (P := Try.prog) 43 32 .i64 Try.underlying43 hi 2 hz1 A (n + 1) c 1 (by omega) (by omega) W
    exact h
  · have hl : (x :: l).length = n + 1 := h.1
    have h2 := Kd.C_drop (k := k32) (A := A) (c := c) (xs := x :: l) (m := 1) (by rw [hl]; exact h) (by simp) (by rw [hl]; exact hc)
    have hl2 : l.length = n := by simpa using hl
    simp only [List.drop_one, List.tail_cons] at h2
    rw [hl2] at h2
    exact h2

theorem km (w W : World) (base : Nat) (ok : Nat → Prop) (x : S32) (cs : List Value) (h : k32.K w x cs) : k32.M W base ok x cs := by
  rw [k32_open h]
  exact k32_mkM _ _ _ _

set_option maxHeartbeats 1000000 in
set_option maxRecDepth 100000 in
theorem steal_ok {w0 w : World} {p : Nat} {c : Int} {F : Nat → Prop} {l : List S32} {x : S32} (h : Rf w0 w p c F (x :: l)) (hB : Below w0.heap.size w0 w) (hl : l.length < 256) :
    Calls Try.prog 19 #[.pointer (some ⟨p, 0, none⟩)] w fun e w' => e = .returned (.tuple #[refV x, .bool true]) ∧ Rf w0 w' p c F l ∧ Below w0.heap.size w0 w' ∧ Kept w w' (fun k => k = p ∨ F k) := by
  obtain ⟨v, h1, h2⟩ := h.row
  obtain ⟨gv, cap, rfl, _, hgv, _⟩ := Kd.R_form h2 (by simp)
  obtain ⟨x0, x1⟩ := row_at h2 0 x (by simp)
  have hp := blk_lt h1
  have c1 := (blk_cell h1 1).trans rfl
  have f1 := blk_frozen h1 1
  have hcap := (Kd.R_reads' h2).2.1
  have hC := (Kd.R_reads' h2).2.2
  rw [List.length_cons] at c1 hcap hC
  have H1 := Aside0.mk h1
  have H2 := Aside0.mk h2
  have HC := Aside0.mk hC
  clear h1 h2 hC
  generalize hn : l.length = n at *
  have Hn := Aside0.mk hn
  clear hn
  obtain ⟨A', hcut, hC'⟩ := cut1 (some ⟨gv, 0, none⟩) n cap hcap
  have HC' := Aside0.mk hC'
  clear hC'
  have hz : ((n : Int) + 1 == 0) = false := beq_eq_false_iff_ne.mpr (by omega)
  have cc1 := (Below.cell (below_alloc (Below.refl w.heap.size w) (.cells #[.int .i64 0, .int .i64 0] 32)) (p := ⟨p, 1, none⟩) hp).trans c1
  have y0 := (Below.cell (below_alloc (Below.refl w.heap.size w) (.cells #[.int .i64 0, .int .i64 0] 32)) (p := ⟨gv, 0, none⟩) hgv).trans x0
  have y1 := (Below.cell (below_alloc (Below.refl w.heap.size w) (.cells #[.int .i64 0, .int .i64 0] 32)) (p := ⟨gv, 1, none⟩) hgv).trans x1
  go_enter Try.func19, Try.ntmps19
  go_wp2_with fail
  refine (len_calls p (n + 1) cap _ _ cc1).mono ?_
  rintro e w' ⟨rfl, rfl⟩
  have hb2 : Below w.heap.size w ((w.alloc (.cells #[.int .i64 0, .int .i64 0] 32)).alloc (.cells #[.int .i64 x.f0, .int .i64 x.f1] 32)) := below_alloc (below_alloc (Below.refl _ _) _) _
  have cc2 := (hb2.cell (p := ⟨p, 1, none⟩) hp).trans c1
  have HB2 := Aside0.mk hb2
  clear hb2
  have hfr := h.fresh
  have np : ¬ p = w.heap.size := by omega
  have np1 : ¬ p = w.heap.size + 1 := by omega
  have np' : ¬ w.heap.size = p := by omega
  have np1' : ¬ w.heap.size + 1 = p := by omega
  have NZ : Aside0 (((w.alloc (.cells #[.int .i64 0, .int .i64 0] 32)).alloc (.cells #[.int .i64 x.f0, .int .i64 x.f1] 32)).heap[w.heap.size]? = some (.cells #[.int .i64 0, .int .i64 0] 32 (0, 0))) := ⟨blk_alloc (blk_new w _) _⟩
  have NX : Aside0 (((w.alloc (.cells #[.int .i64 0, .int .i64 0] 32)).alloc (.cells #[.int .i64 x.f0, .int .i64 x.f1] 32)).heap[w.heap.size + 1]? = some (.cells #[.int .i64 x.f0, .int .i64 x.f1] 32 (0, 0))) := ⟨by
    have nx := blk_new (w.alloc (.cells #[.int .i64 0, .int .i64 0] 32)) (.cells #[.int .i64 x.f0, .int .i64 x.f1] 32)
    have hs : (w.alloc (.cells #[.int .i64 0, .int .i64 0] 32)).heap.size = w.heap.size + 1 := by simp
    rwa [hs] at nx⟩
  go_wp2_with (at_builtin; refine Kd.R_append_rows k32 w0.heap.size rfl _ _ 43 32 (.agg #[.int .i64 0, .int .i64 0]) 16 rfl Try.underlying43 info32 rfl (by decide) (by decide) (.slice none 0 0) [] l A' n (cap - 1) (fun k => F k ∧ (k < w.heap.size ∨ w.heap.size + 2 ≤ k)) (fun _ => False) rfl rfl (Kd.R_nil _ _ _ _ _) (HC'.out _ x l (Kd.C_below HC.out HB2.out)) (fun y cs hy => km _ _ _ _ y cs hy) (fun _ hk => hk.elim) (fun k hk => ⟨hfr k (Nat.le_trans HB2.out.size hk), .inr (by simpa using hk)⟩) (below_then hB hB.size HB2.out) (Nat.le_trans hB.size HB2.out.size) (by simp; omega) ?_; intro v1 w1 hown hb1 hg1 hat; obtain ⟨A1, n1, rfl⟩ := Kd.R_slice hown; have HOWN := Aside0.mk hown; have HB1 := Aside0.mk hb1; have HG1 := Aside0.mk hg1; have OZ := Aside0.mk (blk_grown NZ.out hg1 (by simp [Value.ownBlock])); have OX := Aside0.mk (blk_grown NX.out hg1 (by simp [Value.ownBlock])); have OP := Aside0.mk (blk_grown (blk_below H1.out HB2.out) hg1 (by simp [Value.ownBlock])); clear hown hb1 hg1 hat; have q1 := (blk_cell OP.out 1).trans rfl; have qf := blk_frozen OP.out 1; have r0 := (blk_cell OZ.out 0).trans rfl; have r1 := (blk_cell OZ.out 1).trans rfl; have s0 := blk_frozen OZ.out 0; have s1 := blk_frozen OZ.out 1; have u0 := (blk_cell OX.out 0).trans rfl; have u1 := (blk_cell OX.out 1).trans rfl)
  have hbw : Below w.heap.size w w1 := HB2.out.grown HG1.out HB2.out.size (by simp [Value.ownBlock])
  obtain ⟨e1, e2, e3, e4⟩ := finish x h.pw h.out h.fresh hB hbw OP.out (Kd.R_mono HOWN.out (fun k hk => ⟨hk.1, by have := hk.2; omega⟩)) OZ.out hp
  rw [List.nil_append] at e1 e2 e3 e4
  exact bodyPost_ret (v := .tuple #[refV x, .bool true]) (results_ct Try.results19 _ _ w.heap.size 32 _ (0, 0) _ rfl e4 Try.underlying32 rfl (by kernel_rfl)) rfl ⟨rfl, e1, e2, e3⟩

set_option maxHeartbeats 1000000 in
set_option maxRecDepth 100000 in
theorem remove_nil (job : Int) (w : World) : Calls Try.prog 21 #[.pointer none, .int .i64 job] w fun e w' => e = .returned (.int .i64 0) ∧ w = w' := by
  go_enter Try.func21, Try.ntmps21
  go_wp2_with fail
  go_ret
  exact ⟨rfl, rfl⟩

set_option maxHeartbeats 1000000 in
set_option maxRecDepth 100000 in
theorem drain_nil (w : World) : Calls Try.prog 24 #[.pointer none] w fun e w' => e = .returned (.slice none 0 0) ∧ w = w' := by
  go_enter Try.func24, Try.ntmps24
  go_wp2_with fail
  go_ret
  exact ⟨rfl, rfl⟩

set_option maxHeartbeats 1000000 in
set_option maxRecDepth 100000 in
theorem list_nil (w : World) : Calls Try.prog 27 #[.pointer none] w fun e w' => e = .returned (.slice none 0 0) ∧ w = w' := by
  go_enter Try.func27, Try.ntmps27
  go_wp2_with fail
  go_ret
  exact ⟨rfl, rfl⟩

set_option maxHeartbeats 1000000 in
set_option maxRecDepth 100000 in
theorem drain_calls {w0 w : World} {p : Nat} {c : Int} {F : Nat → Prop} {l : List S32} (h : Rf w0 w p c F l) (hB : Below w0.heap.size w0 w) :
    Calls Try.prog 24 #[.pointer (some ⟨p, 0, none⟩)] w fun e w' => ∃ v, e = .returned v ∧ Kd.R k32 32 w' w0.heap.size F v l ∧ Rf w0 w' p c F [] ∧ Below w0.heap.size w0 w' ∧ Kept w w' (fun k => k = p) := by
  obtain ⟨v, h1, h2⟩ := h.row
  obtain ⟨A, n, rfl⟩ := Kd.R_slice h2
  have hp := blk_lt h1
  have c1 := (blk_cell h1 1).trans rfl
  have f1 := blk_frozen h1 1
  have H1 := Aside0.mk h1
  have H2 := Aside0.mk h2
  clear h1 h2
  go_enter Try.func24, Try.ntmps24
  go_wp2_with fail
  go_ret
  obtain ⟨e1, e2, e3⟩ := store_row h.pw h.out H1.out (Kd.R_nil k32 32 w w0.heap.size F) hB (Kept.refl w _) h.fresh
  exact ⟨_, rfl, Kd.R_far H2.out (p := ⟨p, 1, none⟩) (fun k hk e => h.out (by rw [← show k = p from e]; exact hk)) _, e1, e2, Kept.setCell (S := fun k => k = p) (p := ⟨p, 1, none⟩) (Kept.refl w _) (.inl rfl) _⟩

set_option maxHeartbeats 1000000 in
set_option maxRecDepth 100000 in
theorem list_calls {w0 w : World} {p : Nat} {c : Int} {F : Nat → Prop} {l : List S32} (h : Rf w0 w p c F l) (hl : l.length ≤ 256) :
    Calls Try.prog 27 #[.pointer (some ⟨p, 0, none⟩)] w fun e w' => ∃ v, e = .returned v ∧ Kd.R k32 32 w' w.heap.size (fun _ => True) v l ∧ Below w.heap.size w w' := by
  obtain ⟨v, h1, h2⟩ := h.row
  obtain ⟨A, n, rfl⟩ := Kd.R_slice h2
  have hp := blk_lt h1
  have c1 := (blk_cell h1 1).trans rfl
  have H2 := Aside0.mk h2
  clear h1 h2
  go_enter Try.func27, Try.ntmps27
  go_wp2_with (at_builtin; refine Kd.R_append_rows k32 w.heap.size rfl _ _ 43 32 (.agg #[.int .i64 0, .int .i64 0]) 16 rfl Try.underlying43 info32 rfl (by decide) (by decide) (.slice none 0 0) [] l A l.length n (fun _ => True) (fun _ => False) rfl rfl (Kd.R_nil _ _ _ _ _) (Kd.R_reads' H2.out).2.2 (fun y cs hy => km _ _ _ _ y cs hy) (fun _ hk => hk.elim) (fun _ _ => trivial) (Below.refl _ _) (Nat.le_refl _) (by simp; omega) ?_; intro v1 w1 hown hb1 hg1 hat)
  go_ret
  exact ⟨_, rfl, by simpa using hown, hb1⟩

end Go.Proofs.Ytfnplpkplmhhnaa.Rf
