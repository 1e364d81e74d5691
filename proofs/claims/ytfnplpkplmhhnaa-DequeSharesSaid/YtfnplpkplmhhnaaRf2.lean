/- Len, Pop and Steal of the reference's deque, walked. -/
import Derived.Test.YtfnplpkplmhhnaaRf
namespace Go.Proofs.Ytfnplpkplmhhnaa.Rf
open Go.RowKit Go.Proofs.YtfnplpkplmhhnaaW.PrintWords Go.Proofs.YtfnplpkplmhhnaaW.PrintLast Go.Proofs.YtfnplpkplmhhnaaW.PrintMore
open Go.Proofs.Ytfnplpkplmhhnaa.PDequeFollows (S32 k32 info32 k32_mkM rd_T32 at_T32 z32 tilefarmref23_Without.calls tilefarmref23_Without.f)
open Go.Proofs.Ytfnplpkplmhhnaa.Dq (boxed keep refV row_at)
set_option linter.unusedVariables false

set_option maxHeartbeats 1000000 in
set_option maxRecDepth 100000 in
theorem len_nil (w : World) : Calls Try.prog 25 #[.pointer none] w fun e w' => e = .returned (.int .i64 0) ∧ w = w' := by
  go_enter Try.func25, Try.ntmps25
  go_wp2_with fail
  go_ret
  exact ⟨rfl, rfl⟩

set_option maxHeartbeats 1000000 in
set_option maxRecDepth 100000 in
theorem len_calls (p n m : Nat) (A : Option Addr) (w : World) (h : w.cell? ⟨p, 1, none⟩ = some (.slice A n m)) : Calls Try.prog 25 #[.pointer (some ⟨p, 0, none⟩)] w fun e w' => e = .returned (.int .i64 n) ∧ w = w' := by
  go_enter Try.func25, Try.ntmps25
  go_wp2_with fail
  go_ret
  exact ⟨rfl, rfl⟩

set_option maxHeartbeats 1000000 in
set_option maxRecDepth 100000 in
theorem pop_nil (w : World) : Calls Try.prog 18 #[.pointer none] w fun e w' => e = .returned (.tuple #[.agg #[.int .i64 0, .int .i64 0], .bool false]) ∧ Below w.heap.size w w' := by
  go_enter Try.func18, Try.ntmps18
  go_wp2_with (go_at_call 25; refine (len_nil _).mono ?_; rintro e w' ⟨rfl, rfl⟩)
  exact bodyPost_ret (v := .tuple #[.agg #[.int .i64 0, .int .i64 0], .bool false]) (by simp [results, Try.results18, go_sem]) rfl ⟨rfl, below_alloc (Below.refl _ _) _⟩

set_option maxHeartbeats 1000000 in
set_option maxRecDepth 100000 in
theorem steal_nil (w : World) : Calls Try.prog 19 #[.pointer none] w fun e w' => e = .returned (.tuple #[.agg #[.int .i64 0, .int .i64 0], .bool false]) ∧ Below w.heap.size w w' := by
  go_enter Try.func19, Try.ntmps19
  go_wp2_with (go_at_call 25; refine (len_nil _).mono ?_; rintro e w' ⟨rfl, rfl⟩)
  exact bodyPost_ret (v := .tuple #[.agg #[.int .i64 0, .int .i64 0], .bool false]) (by simp [results, Try.results19, go_sem]) rfl ⟨rfl, below_alloc (Below.refl _ _) _⟩

set_option maxHeartbeats 1000000 in
set_option maxRecDepth 100000 in
theorem pop_none (p m : Nat) (A : Option Addr) (w : World) (hp : p < w.heap.size) (h : w.cell? ⟨p, 1, none⟩ = some (.slice A 0 m)) : Calls Try.prog 18 #[.pointer (some ⟨p, 0, none⟩)] w fun e w' => e = .returned (.tuple #[.agg #[.int .i64 0, .int .i64 0], .bool false]) ∧ Below w.heap.size w w' := by
  go_enter Try.func18, Try.ntmps18
  go_wp2_with fail
  refine (len_calls p 0 m A _ ((Below.cell (below_alloc (Below.refl _ _) _) (p := ⟨p, 1, none⟩) hp).trans h)).mono ?_
  rintro e w' ⟨rfl, rfl⟩
  go_wp2_with fail
  exact bodyPost_ret (v := .tuple #[.agg #[.int .i64 0, .int .i64 0], .bool false]) (by simp [results, Try.results18, go_sem]) rfl ⟨rfl, below_alloc (Below.refl _ _) _⟩

set_option maxHeartbeats 1000000 in
set_option maxRecDepth 100000 in
theorem steal_none (p m : Nat) (A : Option Addr) (w : World) (hp : p < w.heap.size) (h : w.cell? ⟨p, 1, none⟩ = some (.slice A 0 m)) : Calls Try.prog 19 #[.pointer (some ⟨p, 0, none⟩)] w fun e w' => e = .returned (.tuple #[.agg #[.int .i64 0, .int .i64 0], .bool false]) ∧ Below w.heap.size w w' := by
  go_enter Try.func19, Try.ntmps19
  go_wp2_with fail
  refine (len_calls p 0 m A _ ((Below.cell (below_alloc (Below.refl _ _) _) (p := ⟨p, 1, none⟩) hp).trans h)).mono ?_
  rintro e w' ⟨rfl, rfl⟩
  go_wp2_with fail
  exact bodyPost_ret (v := .tuple #[.agg #[.int .i64 0, .int .i64 0], .bool false]) (by simp [results, Try.results19, go_sem]) rfl ⟨rfl, below_alloc (Below.refl _ _) _⟩

theorem two_new (w : World) (u v : Value) : ∃ W, ((w.alloc (.cells #[.int .i64 0, .int .i64 0] 32)).alloc (.cells #[u, v] 32)).drew = W ∧ Below w.heap.size w W ∧
    W.heap[w.heap.size]? = some (.cells #[.int .i64 0, .int .i64 0] 32 (0, 0)) ∧ W.heap[w.heap.size + 1]? = some (.cells #[u, v] 32 (0, 0)) := by
  have nz := blk_drew (blk_alloc (blk_new w (.cells #[.int .i64 0, .int .i64 0] 32)) (.cells #[u, v] 32))
  have nx := blk_drew (blk_new (w.alloc (.cells #[.int .i64 0, .int .i64 0] 32)) (.cells #[u, v] 32))
  have hs : (w.alloc (.cells #[.int .i64 0, .int .i64 0] 32)).heap.size = w.heap.size + 1 := by simp
  rw [hs] at nx
  exact ⟨_, rfl, below_drew (below_alloc (below_alloc (Below.refl _ _) _) _), nz, nx⟩

theorem Rf.drew {w0 w : World} {p : Nat} {c : Int} {F : Nat → Prop} {l : List S32} (h : Rf w0 w p c F l) : Rf w0 w.drew p c F l := by
  obtain ⟨v, h1, h2⟩ := h.row
  exact ⟨⟨v, h1, Kd.R_drew h2⟩, h.pw, h.out, h.fresh⟩

/-- Behind the new row's store into the field, the result's store into its own block. -/
theorem finish {w0 w W : World} {p : Nat} {c : Int} {F : Nat → Prop} {l : List S32} {u v : Value} (x : S32) (pw : w0.heap.size ≤ p) (out : ¬ F p) (fresh : ∀ k, w.heap.size ≤ k → F k) (hB : Below w0.heap.size w0 w) (hb : Below w.heap.size w W)
    (ho : W.heap[p]? = some (.cells #[.int .i64 c, u] 50 (0, 0))) (hr : Kd.R k32 32 W w0.heap.size (fun k => F k ∧ k ≠ w.heap.size) v l)
    (nz : W.heap[w.heap.size]? = some (.cells #[.int .i64 0, .int .i64 0] 32 (0, 0))) (hp : p < w.heap.size) :
    Rf w0 (((W.setCell ⟨p, 1, none⟩ v).setCell ⟨w.heap.size, 0, none⟩ (.int .i64 x.f0)).setCell ⟨w.heap.size, 1, none⟩ (.int .i64 x.f1)) p c F l ∧
    Below w0.heap.size w0 (((W.setCell ⟨p, 1, none⟩ v).setCell ⟨w.heap.size, 0, none⟩ (.int .i64 x.f0)).setCell ⟨w.heap.size, 1, none⟩ (.int .i64 x.f1)) ∧
    Kept w (((W.setCell ⟨p, 1, none⟩ v).setCell ⟨w.heap.size, 0, none⟩ (.int .i64 x.f0)).setCell ⟨w.heap.size, 1, none⟩ (.int .i64 x.f1)) (fun k => k = p ∨ F k) ∧
    (((W.setCell ⟨p, 1, none⟩ v).setCell ⟨w.heap.size, 0, none⟩ (.int .i64 x.f0)).setCell ⟨w.heap.size, 1, none⟩ (.int .i64 x.f1)).heap[w.heap.size]? = some (.cells #[.int .i64 x.f0, .int .i64 x.f1] 32 (0, 0)) := by
  have hw := hB.size
  have hs := hb.size
  have a1 := blk_set ho 1 v
  have a2 := blk_far (blk_far a1 (p := ⟨w.heap.size, 0, none⟩) (by exact Nat.ne_of_lt hp) (.int .i64 x.f0)) (p := ⟨w.heap.size, 1, none⟩) (by exact Nat.ne_of_lt hp) (.int .i64 x.f1)
  have b1 := Kd.R_far (Kd.R_far (Kd.R_far hr (p := ⟨p, 1, none⟩) (fun k hk e => out (by rw [← show k = p from e]; exact hk.1)) v) (p := ⟨w.heap.size, 0, none⟩) (fun k hk => by exact hk.2) (.int .i64 x.f0)) (p := ⟨w.heap.size, 1, none⟩) (fun k hk => by exact hk.2) (.int .i64 x.f1)
  refine ⟨⟨⟨v, by simpa using a2, Kd.R_mono b1 (fun k hk => hk.1)⟩, pw, out, fun k hk => fresh k ?_⟩, ?_, ?_, ?_⟩
  · simp only [World.setCell, Array.size_modify] at hk
    omega
  · exact (((below_then hB hw hb).setCell (by exact pw) _).setCell (by exact hw) _).setCell (by exact hw) _
  · have k0 : Kept w W (fun k => k = p ∨ F k) := Kept.of_below hb _
    exact ((k0.setCell (.inl (.inl rfl)) _).setCell (.inr (Nat.le_refl _)) _).setCell (.inr (Nat.le_refl _)) _
  · simpa using blk_set (blk_set (blk_far nz (p := ⟨p, 1, none⟩) (by exact (Nat.ne_of_lt hp).symm) v) 0 (.int .i64 x.f0)) 1 (.int .i64 x.f1)

set_option maxHeartbeats 1000000 in
set_option maxRecDepth 100000 in
theorem pop_ok {w0 w : World} {p : Nat} {c : Int} {F : Nat → Prop} {l : List S32} {x : S32} (h : Rf w0 w p c F (l ++ [x])) (hB : Below w0.heap.size w0 w) (hl : l.length < 256) :
    Calls Try.prog 18 #[.pointer (some ⟨p, 0, none⟩)] w fun e w' => e = .returned (.tuple #[refV x, .bool true]) ∧ Rf w0 w' p c F l ∧ Below w0.heap.size w0 w' ∧ Kept w w' (fun k => k = p ∨ F k) := by
  obtain ⟨v, h1, h2⟩ := h.row
  obtain ⟨gv, cap, rfl, _, hgv, _⟩ := Kd.R_form h2 (by simp)
  obtain ⟨x0, x1⟩ := row_at h2 l.length x (by simp)
  have hp := blk_lt h1
  have c1 := (blk_cell h1 1).trans rfl
  have f1 := blk_frozen h1 1
  have hcap := (Kd.R_reads' h2).2.1
  rw [List.length_append, List.length_singleton] at c1 hcap
  have H1 := Aside0.mk h1
  have H2 := Aside0.mk h2
  clear h1 h2
  generalize hn : l.length = n at *
  have Hn := Aside0.mk hn
  clear hn
  have hz : ((n : Int) + 1 == 0) = false := beq_eq_false_iff_ne.mpr (by omega)
  have cc1 := (Below.cell (below_alloc (Below.refl w.heap.size w) (.cells #[.int .i64 0, .int .i64 0] 32)) (p := ⟨p, 1, none⟩) hp).trans c1
  have y0 := (Below.cell (below_alloc (Below.refl w.heap.size w) (.cells #[.int .i64 0, .int .i64 0] 32)) (p := ⟨gv, n * 2, none⟩) hgv).trans x0
  have y1 := (Below.cell (below_alloc (Below.refl w.heap.size w) (.cells #[.int .i64 0, .int .i64 0] 32)) (p := ⟨gv, n * 2 + 1, none⟩) hgv).trans x1
  have m1 := World.new_ne _ _ cc1
  have m2 := World.new_ne _ _ y0
  have m3 := World.new_ne _ _ y1
  go_enter Try.func18, Try.ntmps18
  go_wp2_with fail
  refine (len_calls p (n + 1) cap _ _ cc1).mono ?_
  rintro e w' ⟨rfl, rfl⟩
  go_wp2_with fail
  have i0 : (0 : Int) ≤ (n : Int) := Int.natCast_nonneg _
  have i1 : (n : Int) < (n : Int) + 1 := by omega
  have i2 : IntKind.i64.wrap (n : Int) = (n : Int) := IntWalk.i64_in _ (by omega)
  go_region_held3 (fun w' => w'.cell? ⟨p, 1, none⟩ = some (.slice (some ⟨gv, 0, none⟩) (n + 1) cap) ∧ w'.cell? ⟨gv, n * 2, none⟩ = some (.int .i64 x.f0) ∧ w'.cell? ⟨gv, n * 2 + 1, none⟩ = some (.int .i64 x.f1))
    (first | exact ⟨cc1, y0, y1⟩ | go_keep)
    (fail)
  clear i2
  go_wp2_with fail
  obtain ⟨W, hW, hb, nz, nx⟩ := two_new w (.int .i64 x.f0) (.int .i64 x.f1)
  rw [hW]
  have HW := Aside0.mk hW
  clear hW cc1 y0 y1 m1 m2 m3
  have d1 := (hb.cell (p := ⟨p, 1, none⟩) hp).trans c1
  have g1 := (hb.frozen (p := ⟨p, 1, none⟩) hp).trans f1
  have r0 := (blk_cell nz 0).trans rfl
  have r1 := (blk_cell nz 1).trans rfl
  have s0 := blk_frozen nz 0
  have s1 := blk_frozen nz 1
  have v0 := (blk_cell nx 0).trans rfl
  have v1 := (blk_cell nx 1).trans rfl
  have np : ¬ p = w.heap.size := by omega
  have np1 : ¬ p = w.heap.size + 1 := by omega
  have np' : ¬ w.heap.size = p := by omega
  have np1' : ¬ w.heap.size + 1 = p := by omega
  have i2 : IntKind.i64.wrap (n : Int) = (n : Int) := IntWalk.i64_in _ (by omega)
  have i3 : n ≤ cap := by omega
  go_still_tail 14, (by kernel_rfl)
  clear i2
  change wpList _ _ _ _ _ W.drew
  go_wp2_with fail
  have hr : Kd.R k32 32 W w0.heap.size (fun k => F k ∧ k ≠ w.heap.size) (.slice (some ⟨gv, 0, none⟩) n cap) l := by
    have r1 := Kd.R_below (Kd.R_mono (Kd.R_bound H2.out) (ok' := fun k => F k ∧ k ≠ w.heap.size) (fun k hk => ⟨hk.1, Nat.ne_of_lt hk.2.2.1⟩)) hb
    have r2 := Kd.R_take r1 (m := n) (by simp [Hn.out])
    rwa [← Hn.out, List.take_left', Hn.out] at r2
    rfl
  obtain ⟨e1, e2, e3, e4⟩ := finish x h.pw h.out (fun k hk => h.fresh k hk) hB hb (blk_below H1.out hb) hr nz hp
  exact bodyPost_ret (v := .tuple #[refV x, .bool true]) (results_ct Try.results18 _ _ w.heap.size 32 _ (0, 0) _ rfl (blk_drew e4) Try.underlying32 rfl (by kernel_rfl)) rfl ⟨rfl, e1.drew, below_drew e2, e3.drew⟩

end Go.Proofs.Ytfnplpkplmhhnaa.Rf
