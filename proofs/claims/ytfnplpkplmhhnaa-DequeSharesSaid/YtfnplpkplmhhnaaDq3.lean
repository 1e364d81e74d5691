/- List, Drain, Remove and New of the program's deque, walked. -/
import Derived.Test.YtfnplpkplmhhnaaDq2
namespace Go.Proofs.Ytfnplpkplmhhnaa.Dq
open Go.RowKit Go.Proofs.YtfnplpkplmhhnaaW.PrintWords Go.Proofs.YtfnplpkplmhhnaaW.PrintLast Go.Proofs.YtfnplpkplmhhnaaW.PrintMore
open Go.Proofs.Ytfnplpkplmhhnaa.PDequeFollows (S32 k32 info32 k32_mkM)
set_option linter.unusedVariables false

set_option maxHeartbeats 1000000 in
set_option maxRecDepth 100000 in
theorem list_nil (w : World) : Calls Try.prog 26 #[.pointer none] w fun e w' => e = .returned (.slice none 0 0) ∧ w = w' := by
  go_enter Try.func26, Try.ntmps26
  go_wp2_with (go_at_call 13; refine (len_nil _).mono ?_; rintro e w' ⟨rfl, rfl⟩)
  go_loop [3, 7] (fun v i => v = .slice none 0 0 ∧ i = .int .i64 0) (fun _ _ => 0)
  case atStart => exact ⟨rfl, rfl⟩
  case round =>
    obtain ⟨rfl, rfl⟩ := hrel
    go_wp2_with fail
    go_ret
    exact ⟨rfl, rfl⟩

set_option maxHeartbeats 1000000 in
set_option maxRecDepth 100000 in
theorem list_calls {w0 w : World} {p g c t : Nat} {l : List S32} (h : Dq w0 w p g c t l) :
    Calls Try.prog 26 #[.pointer (some ⟨p, 0, none⟩)] w fun e w' => ∃ v, e = .returned v ∧ Kd.R k32 32 w' w.heap.size (fun _ => True) v l ∧ Below w.heap.size w w' := by
  have hp := blk_lt h.obj
  have hl := h.len
  obtain ⟨hc, hc'⟩ := h.cap
  have ht := h.top
  have h2 := h.c2
  have HG : Aside0 (g < w.heap.size) := by obtain ⟨cur, r1, _⟩ := h.ring; exact ⟨blk_lt r1⟩
  have H := Aside0.mk h
  clear h
  generalize hn : l.length = n at *
  have Hn := Aside0.mk hn
  clear hn
  go_enter Try.func26, Try.ntmps26
  go_wp2_with (go_at_call 13; refine (len_calls p n _ h2).mono ?_; rintro e w' ⟨rfl, rfl⟩)
  go_loopw [3, 4, 7] (fun v _ i wr => ∃ k : Nat, k ≤ n ∧ i = .int .i64 k ∧ Aside0 (Kd.R k32 32 wr w.heap.size (fun _ => True) v (l.take k)) ∧ Aside0 (Below w.heap.size w wr)) (fun _ _ i _ => n - (intOf i).toNat)
  case atStart => exact ⟨0, by omega, rfl, ⟨Kd.R_nil _ _ _ _ _⟩, ⟨Below.refl _ _⟩⟩
  case round =>
    obtain ⟨k, hk, rfl, HR, HB⟩ := hrel
    by_cases hlt : k < n
    · obtain ⟨x, hx⟩ : ∃ x, l[k]? = some x := ⟨_, List.getElem?_eq_getElem (by rw [Hn.out]; exact hlt)⟩
      obtain ⟨cur, r1, r2, r3⟩ := H.out.ring
      have x0 := (blk_cell r1 _).trans (r3 k x hx).1
      have x1 := (blk_cell r1 _).trans (r3 k x hx).2
      have hm : (t + k) % c < c := Nat.mod_lt _ (by omega)
      generalize hq : (t + k) % c = q at *
      have Hq := Aside0.mk hq
      clear hq
      have hm0 : (0 : Int) ≤ (q : Int) := Int.natCast_nonneg _
      have hm1 : (q : Int) < (c : Int) := by omega
      have KB : Aside0 (∀ W', Below w.heap.size w W' → (W'.cell? ⟨p, 0, none⟩ = some (.slice (some ⟨g, 0, none⟩) c c) ∧ W'.cell? ⟨p, 1, none⟩ = some (.int .i64 t) ∧ W'.cell? ⟨g, q * 2, none⟩ = some (.int .i64 x.f0) ∧ W'.cell? ⟨g, q * 2 + 1, none⟩ = some (.int .i64 x.f1))) :=
        ⟨fun W' hb => ⟨(hb.cell (p := ⟨p, 0, none⟩) hp).trans H.out.c0, (hb.cell (p := ⟨p, 1, none⟩) hp).trans H.out.c1, (hb.cell (p := ⟨g, q * 2, none⟩) HG.out).trans x0, (hb.cell (p := ⟨g, q * 2 + 1, none⟩) HG.out).trans x1⟩⟩
      have HX := Aside0.mk hx
      clear hx x0 x1 r1 r2 r3 h2
      go_wp2_with fail
      go_region_held3 (fun w' => w'.cell? ⟨p, 0, none⟩ = some (.slice (some ⟨g, 0, none⟩) c c) ∧ w'.cell? ⟨p, 1, none⟩ = some (.int .i64 t) ∧ w'.cell? ⟨g, q * 2, none⟩ = some (.int .i64 x.f0) ∧ w'.cell? ⟨g, q * 2 + 1, none⟩ = some (.int .i64 x.f1))
        ((refine KB.out _ ?_; first | assumption | (repeat (first | (with_reducible first | exact HB.out | apply below_alloc | apply pw_below_drewN | apply below_drew1 | apply below_drew) | exact HB.out))))
        (first
          | (go_at_call 28; go_split_ands; refine (at_calls p g c t k q _ Hq.out (by assumption) (by assumption) hc hc' ht (by omega)).mono ?_; rintro e w' ⟨rfl, nd, rfl⟩)
          | (refine Kd.R_append_step k32 w.heap.size (by rfl) _ _ 43 32 (.agg #[.int .i64 0, .int .i64 0]) 16 (by rfl) Try.underlying43 info32 (by rfl) (by decide) (by decide) u3 (l.take k) x [.int .i64 x.f0, .int .i64 x.f1] (fun _ => True) (fun _ => False) (by rfl) (by rfl) (k32_mkM _ _ _ _) (fun _ h => h.elim) (fun _ _ => trivial) (by exact Kd.R_drewN HR.out _) (by exact pw_below_drewN HB.out _) (by have := HB.out.size; exact this) (by simp; omega) ?_; intro v1 w1 hown hb1 hg1 hat))
      go_wp2_with fail
      go_roundw
      case rel => exact ⟨k + 1, by omega, by go_num, ⟨by rw [List.take_add_one, HX.out]; exact hown⟩, ⟨hb1⟩⟩
      case measure => simp [intOf]; omega
    · obtain rfl : k = n := by omega
      go_wp2_with fail
      go_ret
      refine ⟨_, rfl, ?_, HB.out⟩
      have h1 := HR.out
      rw [← Hn.out, List.take_length] at h1
      exact h1

set_option maxHeartbeats 1000000 in
set_option maxRecDepth 100000 in
theorem list_none (p : Nat) (w : World) (h2 : w.cell? ⟨p, 2, none⟩ = some (.int .i64 0)) : Calls Try.prog 26 #[.pointer (some ⟨p, 0, none⟩)] w fun e w' => e = .returned (.slice none 0 0) ∧ w = w' := by
  go_enter Try.func26, Try.ntmps26
  go_wp2_with (go_at_call 13; refine (len_calls p 0 _ h2).mono ?_; rintro e w' ⟨rfl, rfl⟩)
  go_loop [3, 7] (fun v i => v = .slice none 0 0 ∧ i = .int .i64 0) (fun _ _ => 0)
  case atStart => exact ⟨rfl, rfl⟩
  case round =>
    obtain ⟨rfl, rfl⟩ := hrel
    go_wp2_with fail
    go_ret
    exact ⟨rfl, rfl⟩

set_option maxHeartbeats 1000000 in
set_option maxRecDepth 100000 in
theorem drain_nil (w : World) : Calls Try.prog 23 #[.pointer none] w fun e w' => e = .returned (.slice none 0 0) ∧ w = w' := by
  go_enter Try.func23, Try.ntmps23
  go_wp2_with (go_at_call 26; refine (list_nil _).mono ?_; rintro e w' ⟨rfl, rfl⟩)
  go_ret
  exact ⟨rfl, rfl⟩

set_option maxHeartbeats 1000000 in
set_option maxRecDepth 100000 in
/-- The zero deque. -/
theorem drain_zero (p : Nat) (w : World) (h : w.heap[p]? = some (.cells #[.slice none 0 0, .int .i64 0, .int .i64 0] 46 (0, 0))) :
    Calls Try.prog 23 #[.pointer (some ⟨p, 0, none⟩)] w fun e w' => e = .returned (.slice none 0 0) ∧ (∀ B, B ≤ p → Below B w w') ∧ w'.heap[p]? = some (.cells #[.slice none 0 0, .int .i64 0, .int .i64 0] 46 (0, 0)) := by
  have h1 := (blk_cell h 1).trans rfl
  have h2 := (blk_cell h 2).trans rfl
  have f1 := blk_frozen h 1
  have f2 := blk_frozen h 2
  go_enter Try.func23, Try.ntmps23
  go_wp2_with (go_at_call 26; refine (list_none p _ h2).mono ?_; rintro e w' ⟨rfl, rfl⟩)
  go_ret
  exact ⟨rfl, fun B hB => ((Below.refl B w).setCell (by exact hB) _).setCell (by exact hB) _, by simpa using blk_set (blk_set h 1 (.int .i64 0)) 2 (.int .i64 0)⟩

theorem drain_leaves {w0 w W : World} {p g c t : Nat} {l : List S32} (h : Dq w0 W p g c t l) (hB : Below w0.heap.size w0 W) (hk : Kept w W (fun k => k = p ∨ k = g)) :
    Dq w0 ((W.setCell ⟨p, 1, none⟩ (.int .i64 0)).setCell ⟨p, 2, none⟩ (.int .i64 0)) p g c 0 [] ∧
    Below w0.heap.size w0 ((W.setCell ⟨p, 1, none⟩ (.int .i64 0)).setCell ⟨p, 2, none⟩ (.int .i64 0)) ∧
    Kept w ((W.setCell ⟨p, 1, none⟩ (.int .i64 0)).setCell ⟨p, 2, none⟩ (.int .i64 0)) (fun k => k = p ∨ k = g) := by
  obtain ⟨cur, r1, r2, r3⟩ := h.ring
  have hc := h.cap
  have o1 := blk_set (blk_set h.obj 1 (.int .i64 0)) 2 (.int .i64 0)
  have o2 := blk_far (blk_far r1 (p := ⟨p, 1, none⟩) (Ne.symm h.ne) (.int .i64 0)) (p := ⟨p, 2, none⟩) (Ne.symm h.ne) (.int .i64 0)
  refine ⟨⟨by simpa using o1, ⟨cur, o2, r2, fun i y hi => by simp at hi⟩, h.pw, h.gw, h.ne, hc, by omega, by simp⟩, ?_, ?_⟩
  · exact (hB.setCell (by exact h.pw) _).setCell (by exact h.pw) _
  · exact (hk.setCell (.inl (.inl rfl)) _).setCell (.inl (.inl rfl)) _

set_option maxHeartbeats 1000000 in
set_option maxRecDepth 100000 in
theorem drain_calls {w0 w : World} {p g c t : Nat} {l : List S32} (h : Dq w0 w p g c t l) (hB : Below w0.heap.size w0 w) :
    Calls Try.prog 23 #[.pointer (some ⟨p, 0, none⟩)] w fun e w' => ∃ v, e = .returned v ∧ Kd.R k32 32 w' w.heap.size (fun k => k ≠ p ∧ k ≠ g) v l ∧ Dq w0 w' p g c 0 [] ∧ Below w0.heap.size w0 w' ∧ Kept w w' (fun k => k = p ∨ k = g) := by
  have hp := blk_lt h.obj
  have HG : Aside0 (g < w.heap.size) := by obtain ⟨cur, r1, _⟩ := h.ring; exact ⟨blk_lt r1⟩
  have H := Aside0.mk h
  clear h
  go_enter Try.func23, Try.ntmps23
  go_wp2_with fail
  refine (list_calls H.out).mono ?_
  rintro e w1 ⟨v, rfl, hr, hb⟩
  have hk : Kept w w1 (fun k => k = p ∨ k = g) := Kept.of_below hb _
  have d : Dq w0 w1 p g c t l := H.out.kept (Kept.of_below hb (fun _ => False)) id id
  have f1 := blk_frozen d.obj 1
  have f2 := blk_frozen d.obj 2
  have c1 := d.c1
  have c2 := d.c2
  have D := Aside0.mk d
  clear d
  go_wp2_with fail
  go_ret
  obtain ⟨e1, e2, e3⟩ := drain_leaves D.out (below_then hB hB.size hb) hk
  refine ⟨_, rfl, ?_, e1, e2, e3⟩
  have hr2 := Kd.R_mono (Kd.R_bound hr) (ok' := fun k => k ≠ p ∧ k ≠ g) (fun k hk => by have := hk.2.1; have := HG.out; omega)
  exact Kd.R_far (Kd.R_far hr2 (p := ⟨p, 1, none⟩) (fun k hk => hk.1) _) (p := ⟨p, 2, none⟩) (fun k hk => hk.1) _

end Go.Proofs.Ytfnplpkplmhhnaa.Dq
