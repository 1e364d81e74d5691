/- The methods of the program's deque, walked: what each answers and what it leaves, over a list of tasks. -/
import Derived.Test.YtfnplpkplmhhnaaPDequeFollowsx2
import Derived.StillTailTactics
namespace Go.Proofs.Ytfnplpkplmhhnaa.Dq
open Go.RowKit Go.Proofs.YtfnplpkplmhhnaaW.PrintWords Go.Proofs.YtfnplpkplmhhnaaW.PrintLast Go.Proofs.YtfnplpkplmhhnaaW.PrintMore
open Go.Proofs.Ytfnplpkplmhhnaa.PDequeFollows (S32 k32)
set_option linter.unusedVariables false

/-- A deque at block p, its ring at block g: capacity c, top t, and the tasks l from the top to the bottom. -/
structure Dq (w0 w : World) (p g c t : Nat) (l : List S32) : Prop where
  obj : w.heap[p]? = some (.cells #[.slice (some ⟨g, 0, none⟩) c c, .int .i64 t, .int .i64 l.length] 46 (0, 0))
  ring : ∃ cur, w.heap[g]? = some (.cells cur 32 (0, 0)) ∧ cur.size = c * 2 ∧
    ∀ i x, l[i]? = some x → cur[((t + i) % c) * 2]? = some (.int .i64 x.f0) ∧ cur[((t + i) % c) * 2 + 1]? = some (.int .i64 x.f1)
  pw : w0.heap.size ≤ p
  gw : w0.heap.size ≤ g
  ne : p ≠ g
  cap : 1 ≤ c ∧ c ≤ 256
  top : t < c
  len : l.length ≤ c

section
variable {w0 w w1 : World} {p g c t : Nat} {l : List S32} {S : Nat → Prop}

theorem Dq.kept (h : Dq w0 w p g c t l) (hk : Kept w w1 S) (hp : ¬ S p) (hg : ¬ S g) : Dq w0 w1 p g c t l := by
  obtain ⟨cur, h1, h2, h3⟩ := h.ring
  exact ⟨blk_kept h.obj hk hp, ⟨cur, blk_kept h1 hk hg, h2, h3⟩, h.pw, h.gw, h.ne, h.cap, h.top, h.len⟩
theorem Dq.c0 (h : Dq w0 w p g c t l) : w.cell? ⟨p, 0, none⟩ = some (.slice (some ⟨g, 0, none⟩) c c) := (blk_cell h.obj 0).trans rfl
theorem Dq.c1 (h : Dq w0 w p g c t l) : w.cell? ⟨p, 1, none⟩ = some (.int .i64 t) := (blk_cell h.obj 1).trans rfl
theorem Dq.c2 (h : Dq w0 w p g c t l) : w.cell? ⟨p, 2, none⟩ = some (.int .i64 l.length) := (blk_cell h.obj 2).trans rfl
end

theorem boxed (w : World) (u v : Value) (n : Nat) : Below w.heap.size w ((w.alloc (.cells #[u, v] 32)).drewN n) ∧
    ((w.alloc (.cells #[u, v] 32)).drewN n).cell? ⟨w.heap.size, 0, none⟩ = some u ∧ ((w.alloc (.cells #[u, v] 32)).drewN n).cell? ⟨w.heap.size, 1, none⟩ = some v :=
  ⟨pw_below_drewN (below_alloc (Below.refl _ _) _) n, blk_cell (blk_new w _) 0, blk_cell (blk_new w _) 1⟩

set_option maxHeartbeats 1000000 in
set_option maxRecDepth 100000 in
/-- 'at': the place of a task in the ring. -/
theorem at_calls (p g c t i q : Nat) (w : World) (hq : (t + i) % c = q) (hc0 : w.cell? ⟨p, 0, none⟩ = some (.slice (some ⟨g, 0, none⟩) c c)) (hc1 : w.cell? ⟨p, 1, none⟩ = some (.int .i64 t)) (hc : 1 ≤ c) (hc' : c ≤ 256) (ht : t < c) (hi : i ≤ 256) :
    Calls Try.prog 28 #[.pointer (some ⟨p, 0, none⟩), .int .i64 i] w fun e w' => e = .returned (.int .i64 q) ∧ ∃ n, w' = w.drewN n := by
  subst hq
  go_enter Try.func28, Try.ntmps28
  go_wp2_with fail
  go_quiet (fail)
  go_wp2_with fail
  go_ret
  exact ⟨by simp, _, rfl⟩

set_option maxHeartbeats 1000000 in
set_option maxRecDepth 100000 in
theorem len_nil (w : World) : Calls Try.prog 13 #[.pointer none] w fun e w' => e = .returned (.int .i64 0) ∧ w = w' := by
  go_enter Try.func13, Try.ntmps13
  go_wp2_with fail
  go_ret
  exact ⟨rfl, rfl⟩

set_option maxHeartbeats 1000000 in
set_option maxRecDepth 100000 in
theorem len_calls (p n : Nat) (w : World) (hc2 : w.cell? ⟨p, 2, none⟩ = some (.int .i64 n)) : Calls Try.prog 13 #[.pointer (some ⟨p, 0, none⟩)] w fun e w' => e = .returned (.int .i64 n) ∧ w = w' := by
  go_enter Try.func13, Try.ntmps13
  go_wp2_with fail
  go_ret
  exact ⟨rfl, rfl⟩


set_option maxHeartbeats 1000000 in
set_option maxRecDepth 100000 in
theorem push_nil (a b : Int) (w : World) : Calls Try.prog 9 #[.pointer none, .agg #[.int .i64 a, .int .i64 b]] w fun e w' => e = .returned (.int .i64 20) ∧ Below w.heap.size w w' := by
  go_enter Try.func9, Try.ntmps9
  go_wp2_with fail
  go_ret
  exact ⟨rfl, below_alloc (Below.refl _ _) _⟩

set_option maxHeartbeats 1000000 in
set_option maxRecDepth 100000 in
/-- The zero deque: no ring. -/
theorem push_zero (p : Nat) (a b : Int) (w : World) (hp : p < w.heap.size) (hc0 : w.cell? ⟨p, 0, none⟩ = some (.slice none 0 0)) : Calls Try.prog 9 #[.pointer (some ⟨p, 0, none⟩), .agg #[.int .i64 a, .int .i64 b]] w fun e w' => e = .returned (.int .i64 20) ∧ Below w.heap.size w w' := by
  have hlt : w.heap.size = p ↔ False := ⟨fun h => by omega, False.elim⟩
  go_enter Try.func9, Try.ntmps9
  go_wp2_with fail
  go_ret
  exact ⟨rfl, below_alloc (Below.refl _ _) _⟩

set_option maxHeartbeats 1000000 in
set_option maxRecDepth 100000 in
theorem push_full (p g c : Nat) (a b : Int) (w : World) (hc : 1 ≤ c) (hc' : c ≤ 256) (hp : p < w.heap.size) (hc0 : w.cell? ⟨p, 0, none⟩ = some (.slice (some ⟨g, 0, none⟩) c c)) (hc2 : w.cell? ⟨p, 2, none⟩ = some (.int .i64 c)) :
    Calls Try.prog 9 #[.pointer (some ⟨p, 0, none⟩), .agg #[.int .i64 a, .int .i64 b]] w fun e w' => e = .returned (.int .i64 19) ∧ Below w.heap.size w w' := by
  have hz : ((c : Int) == 0) = false := beq_eq_false_iff_ne.mpr (by omega)
  have he : ((c : Int) == (c : Int)) = true := by simp
  go_enter Try.func9, Try.ntmps9
  go_wp2_with fail
  go_quiet (fail)
  go_wp2_with fail
  go_ret
  exact ⟨rfl, by repeat (first | exact Below.refl _ _ | apply below_alloc | apply pw_below_drewN)⟩


theorem mod_apart {c t n i : Nat} (hc : 1 ≤ c) (hi : i < n) (hn : n < c) : (t + i) % c ≠ (t + n) % c := by
  intro e
  have e1 := Nat.div_add_mod (t + i) c
  have e2 := Nat.div_add_mod (t + n) c
  rw [e] at e1
  have h1 : c * ((t + n) / c) - c * ((t + i) / c) = n - i := by omega
  have h2 : (t + i) / c ≤ (t + n) / c := Nat.div_le_div_right (by omega)
  obtain ⟨d, hd⟩ := Nat.exists_eq_add_of_le h2
  rw [hd, Nat.mul_add] at h1
  have h3 : c * d = n - i := by omega
  rcases Nat.eq_zero_or_pos d with h4 | h4
  · rw [h4] at h3; omega
  · have : c * 1 ≤ c * d := Nat.mul_le_mul_left _ h4
    omega

theorem push_leaves {w0 w W : World} {p g c t : Nat} {l : List S32} (x : S32) (h : Dq w0 w p g c t l) (hB : Below w0.heap.size w0 w) (hl : l.length < c) (hb : Below w.heap.size w W) :
    Dq w0 (((W.setCell ⟨g, (t + l.length) % c * 2, none⟩ (.int .i64 x.f0)).setCell ⟨g, (t + l.length) % c * 2 + 1, none⟩ (.int .i64 x.f1)).setCell ⟨p, 2, none⟩ (.int .i64 (l.length + 1))) p g c t (l ++ [x]) ∧
    Below w0.heap.size w0 (((W.setCell ⟨g, (t + l.length) % c * 2, none⟩ (.int .i64 x.f0)).setCell ⟨g, (t + l.length) % c * 2 + 1, none⟩ (.int .i64 x.f1)).setCell ⟨p, 2, none⟩ (.int .i64 (l.length + 1))) ∧
    Kept w (((W.setCell ⟨g, (t + l.length) % c * 2, none⟩ (.int .i64 x.f0)).setCell ⟨g, (t + l.length) % c * 2 + 1, none⟩ (.int .i64 x.f1)).setCell ⟨p, 2, none⟩ (.int .i64 (l.length + 1))) (fun k => k = p ∨ k = g) := by
  obtain ⟨cur, r1, r2, r3⟩ := h.ring
  have hne := h.ne
  have hc := h.cap
  have o1 := blk_below h.obj hb
  have o2 := blk_below r1 hb
  have hq : (t + l.length) % c < c := Nat.mod_lt _ (by omega)
  have o3 := blk_set (blk_set o2 ((t + l.length) % c * 2) (.int .i64 x.f0)) ((t + l.length) % c * 2 + 1) (.int .i64 x.f1)
  have o4 := blk_far o3 (p := ⟨p, 2, none⟩) (Ne.symm hne) (.int .i64 (l.length + 1))
  have o5 := blk_set (blk_far (blk_far o1 (p := ⟨g, (t + l.length) % c * 2, none⟩) hne (.int .i64 x.f0)) (p := ⟨g, (t + l.length) % c * 2 + 1, none⟩) hne (.int .i64 x.f1)) 2 (.int .i64 (l.length + 1))
  refine ⟨⟨by simpa using o5, ⟨_, o4, by simpa using r2, fun i y hi => ?_⟩, h.pw, h.gw, hne, hc, h.top, by simp; omega⟩, ?_, ?_⟩
  · rcases Nat.lt_or_ge i l.length with hlt | hge
    · rw [List.getElem?_append_left hlt] at hi
      have hap := mod_apart (t := t) hc.1 hlt hl
      obtain ⟨a1, a2⟩ := r3 i y hi
      constructor
      · rw [Array.getElem?_setIfInBounds_ne (by omega), Array.getElem?_setIfInBounds_ne (by omega)]; exact a1
      · rw [Array.getElem?_setIfInBounds_ne (by omega), Array.getElem?_setIfInBounds_ne (by omega)]; exact a2
    · have hl2 := (List.getElem?_eq_some_iff.1 hi).1
      simp at hl2
      obtain rfl : i = l.length := by omega
      simp at hi
      subst hi
      constructor
      · rw [Array.getElem?_setIfInBounds_ne (by omega), Array.getElem?_setIfInBounds_self_of_lt (by omega)]
      · rw [Array.getElem?_setIfInBounds_self_of_lt (by simp; omega)]
  · have hB2 := below_then hB hB.size hb
    exact ((hB2.setCell (by exact h.gw) _).setCell (by exact h.gw) _).setCell (by exact h.pw) _
  · have k0 : Kept w W (fun k => k = p ∨ k = g) := Kept.of_below hb _
    exact ((k0.setCell (.inl (.inr rfl)) _).setCell (.inl (.inr rfl)) _).setCell (.inl (.inl rfl)) _

set_option maxHeartbeats 1000000 in
set_option maxRecDepth 100000 in
theorem push_ok {w0 w : World} {p g c t : Nat} {l : List S32} (x : S32) (h : Dq w0 w p g c t l) (hB : Below w0.heap.size w0 w) (hl : l.length < c) :
    Calls Try.prog 9 #[.pointer (some ⟨p, 0, none⟩), .agg #[.int .i64 x.f0, .int .i64 x.f1]] w fun e w' => e = .returned (.int .i64 0) ∧ Dq w0 w' p g c t (l ++ [x]) ∧ Below w0.heap.size w0 w' ∧ Kept w w' (fun k => k = p ∨ k = g) := by
  have h0 := h.c0
  have h1 := h.c1
  have h2 := h.c2
  obtain ⟨hc, hc'⟩ := h.cap
  have ht := h.top
  have hp := blk_lt h.obj
  have hz : ((c : Int) == 0) = false := beq_eq_false_iff_ne.mpr (by omega)
  have he : ((l.length : Int) == (c : Int)) = false := beq_eq_false_iff_ne.mpr (by omega)
  have hm : (t + l.length) % c < c := Nat.mod_lt _ (by omega)
  have H := Aside0.mk h
  clear h
  generalize hn : l.length = n at *
  have Hn := Aside0.mk hn
  clear hn
  generalize hq : (t + n) % c = q at *
  have Hq := Aside0.mk hq
  clear hq
  have hm0 : (0 : Int) ≤ (q : Int) := Int.natCast_nonneg _
  have hm1 : (q : Int) < (c : Int) := by omega
  obtain ⟨cur, r1, r2, r3⟩ := H.out.ring
  have hg := blk_lt r1
  obtain ⟨u0, k0⟩ : ∃ u, w.cell? ⟨g, q * 2, none⟩ = some u := ⟨_, (blk_cell r1 _).trans (Array.getElem?_eq_getElem (by omega))⟩
  obtain ⟨u1, k1⟩ : ∃ u, w.cell? ⟨g, q * 2 + 1, none⟩ = some u := ⟨_, (blk_cell r1 _).trans (Array.getElem?_eq_getElem (by omega))⟩
  have f0 : w.frozen? ⟨g, q * 2, none⟩ = false := blk_frozen r1 _
  have f1 : w.frozen? ⟨g, q * 2 + 1, none⟩ = false := blk_frozen r1 _
  have f2 : w.frozen? ⟨p, 2, none⟩ = false := blk_frozen H.out.obj _
  have ne := H.out.ne
  have ne' : g ≠ p := Ne.symm ne
  have R1 := Aside0.mk r1
  have R2 := Aside0.mk r2
  have R3 := Aside0.mk r3
  clear r1 r2 r3
  go_enter Try.func9, Try.ntmps9
  go_wp2_with fail
  go_quiet (fail)
  go_wp2_with fail
  obtain ⟨hb, b0, b1⟩ := boxed w (.int .i64 x.f0) (.int .i64 x.f1) nq
  generalize hW : (w.alloc (.cells #[.int .i64 x.f0, .int .i64 x.f1] 32)).drewN nq = W at *
  clear hW
  have h0 := (hb.cell (p := ⟨p, 0, none⟩) hp).trans h0
  have h1 := (hb.cell (p := ⟨p, 1, none⟩) hp).trans h1
  have h2 := (hb.cell (p := ⟨p, 2, none⟩) hp).trans h2
  have k0 := (hb.cell (p := ⟨g, q * 2, none⟩) hg).trans k0
  have k1 := (hb.cell (p := ⟨g, q * 2 + 1, none⟩) hg).trans k1
  have f0 := (hb.frozen (p := ⟨g, q * 2, none⟩) hg).trans f0
  have f1 := (hb.frozen (p := ⟨g, q * 2 + 1, none⟩) hg).trans f1
  have n1 : ¬ g = w.heap.size := by omega
  have n2 : ¬ w.heap.size = g := by omega
  have f2 := (hb.frozen (p := ⟨p, 2, none⟩) hp).trans f2
  go_region_held3 (fun w' => w'.cell? ⟨p, 0, none⟩ = some (.slice (some ⟨g, 0, none⟩) c c) ∧ w'.cell? ⟨p, 1, none⟩ = some (.int .i64 t) ∧ w'.cell? ⟨p, 2, none⟩ = some (.int .i64 n) ∧ w'.cell? ⟨w.heap.size, 0, none⟩ = some (.int .i64 x.f0) ∧ w'.cell? ⟨w.heap.size, 1, none⟩ = some (.int .i64 x.f1)
      ∧ True)
    (first | exact ⟨h0, h1, h2, b0, b1, trivial⟩ | go_keep)
    ((go_at_call 28; go_split_ands; refine (at_calls p g c t n q _ Hq.out (by assumption) (by assumption) hc hc' ht (by omega)).mono ?_; rintro e w' ⟨rfl, nd, rfl⟩))
  go_wp2_with fail
  go_ret
  obtain ⟨e1, e2, e3⟩ := push_leaves x H.out hB (by rw [Hn.out]; exact hl) (pw_below_drewN hb (1 + nd))
  rw [Hn.out, Hq.out] at e1 e2 e3
  exact ⟨rfl, e1, e2, e3⟩

end Go.Proofs.Ytfnplpkplmhhnaa.Dq
