/- 'ArenaNested' returns true for all inputs: after a mark, any reservations and the release the arena is as before, apart from the greatest use. No conditions. This text: the walk of the law. -/
import Derived.Test.YtlnmgbimjenbfaaTp
namespace Go.Proofs.Ytlnmgbimjenbfaa.Nested
open Go.RowKit Go.Proofs.YtlnmgbimjenbfaaW.PrintWords Go.Proofs.YtlnmgbimjenbfaaW.PrintLast Go.Proofs.YtlnmgbimjenbfaaW.PrintMore
open Go.Proofs.Ytlnmgbimjenbfaa.PArenaFollows
open Go.Proofs.Ytlnmgbimjenbfaa.Ar Go.Proofs.Ytlnmgbimjenbfaa.Tp
set_option linter.unusedVariables false

/-- What a reservation answers. -/
theorem alloc_says (c u h n m : Int) (hu : 0 ≤ u) (huc : u ≤ c) (hc : c ≤ 1048576) (huh : u ≤ h) :
    (0 ≤ (allocR c u h n m).2.2.1 ∧ (allocR c u h n m).2.2.1 ≤ c ∧ (allocR c u h n m).2.2.1 ≤ (allocR c u h n m).2.2.2) ∧
    ((1 ≤ n ∧ n ≤ 1048576 ∧ 1 ≤ m ∧ m ≤ 4096) → (((allocR c u h n m).2.1 = 19 ∧ (allocR c u h n m).2.2.1 = u ∧ (allocR c u h n m).2.2.2 = h) ∨
      ((allocR c u h n m).2.1 = 0 ∧ u ≤ (allocR c u h n m).1 ∧ (allocR c u h n m).1 + n ≤ c ∧ (allocR c u h n m).1 % m = 0 ∧ (allocR c u h n m).1 - u < m ∧ (allocR c u h n m).2.2.1 = (allocR c u h n m).1 + n))) := by
  unfold allocR
  by_cases hr : n < 1 ∨ 1048576 < n ∨ m < 1 ∨ 4096 < m
  · rw [if_pos hr]
    exact ⟨⟨hu, huc, huh⟩, fun h => by omega⟩
  · rw [if_neg hr]
    obtain ⟨r, b, he⟩ : ∃ r b, alignR u m c = (r, b) := ⟨_, _, rfl⟩
    rw [he]
    by_cases hh : b = true ∧ n ≤ c - r
    · rw [if_pos hh]
      obtain ⟨q1, q2, q3, q4⟩ := alignR_is (u := u) (m := m) (c := c) (r := r) (by rw [he, hh.1]) hu (by omega) (by omega)
      refine ⟨⟨by simp only; omega, by simp only; omega, by simp only; omega⟩, fun _ => .inr ⟨rfl, q1, by simp only; omega, q4, by simp only; omega, rfl⟩⟩
    · rw [if_neg hh]
      exact ⟨⟨hu, huc, huh⟩, fun _ => .inl ⟨rfl, rfl, rfl⟩⟩

/-- The arena at p, the tape before it. -/
structure Nd (w0 w : World) (p tp B : Nat) (t : List Int) (c u h : Int) (l : List Int) : Prop where
  ar : Ar 46 w0 w p c u h (fun k => k ≠ p ∧ B ≤ k) l
  tape : OnTape w0 w tp t
  below : Below w0.heap.size w0 w
  tpB : tp < B
  pB : B ≤ p
  inn : 0 ≤ u ∧ u ≤ c ∧ c ≤ 1048576 ∧ u ≤ h

section
variable {w0 w w1 : World} {p tp B : Nat} {t l : List Int} {c u h : Int}
theorem Nd.below' (H : Nd w0 w p tp B t c u h l) (hb : Below w.heap.size w w1) : Nd w0 w1 p tp B t c u h l :=
  ⟨H.ar.below hb, H.tape.below hb, below_then H.below H.below.size hb, H.tpB, H.pB, H.inn⟩
theorem Nd.afterT (H : Nd w0 w p tp B t c u h l) (ht : OnTape w0 w1 tp t) (hb : Below w0.heap.size w0 w1) (hk : Kept w w1 (fun k => k = tp)) : Nd w0 w1 p tp B t c u h l :=
  ⟨H.ar.kept hk (fun e => by have := H.tpB; have := H.pB; omega) (fun k hk e => by have := H.tpB; have := hk.2; omega), ht, hb, H.tpB, H.pB, H.inn⟩
theorem Nd.afterA {u' h' : Int} {l' : List Int} (H : Nd w0 w p tp B t c u h l) (ha : Ar 46 w0 w1 p c u' h' (fun k => k ≠ p ∧ B ≤ k) l') (hb : Below w0.heap.size w0 w1) (hk : Kept w w1 (fun k => k = p ∨ (k ≠ p ∧ B ≤ k))) (hi : 0 ≤ u' ∧ u' ≤ c ∧ c ≤ 1048576 ∧ u' ≤ h') : Nd w0 w1 p tp B t c u' h' l' :=
  ⟨ha, H.tape.kept hk (fun e => by have := H.tpB; have := H.pB; omega), hb, H.tpB, H.pB, hi⟩

theorem Nd.next (n : Int) (H : Nd w0 w p tp B t c u h l) (hl : t.length ≤ 9223372036854775807) (hn : 1 ≤ n) (hb : n ≤ 4611686018427387904) :
    Calls Try.prog 10 #[.pointer (some ⟨tp, 0, none⟩), .int .i64 n] w fun e w' => ∃ r : Int, e = .returned (.int .i64 r) ∧ 0 ≤ r ∧ r < n ∧ Nd w0 w' p tp B t c u h l := by
  refine (next_calls n H.tape H.below hl hn hb).mono ?_
  rintro e w' ⟨r, he, r0, r1, a, b, k⟩
  exact ⟨r, he, r0, r1, H.afterT a b k⟩

theorem Nd.pick (xs : List Int) {b : Nat} (H : Nd w0 w p tp B t c u h l) (hl : t.length ≤ 9223372036854775807) (h1 : 1 ≤ xs.length) (h2 : xs.length ≤ 100) (hb : w.heap[b]? = some (.cells (xs.map (Value.int .i64)).toArray 3 (0, 0))) (hg : b ≠ tp) :
    Calls Try.prog 14 #[.pointer (some ⟨tp, 0, none⟩), .slice (some ⟨b, 0, none⟩) xs.length xs.length] w fun e w' => ∃ r : Int, e = .returned (.int .i64 r) ∧ r ∈ xs ∧ Nd w0 w' p tp B t c u h l := by
  refine (pick_calls xs H.tape H.below hl h1 h2 hb hg).mono ?_
  rintro e w' ⟨r, he, r0, a, b, k⟩
  exact ⟨r, he, r0, H.afterT a b k⟩

theorem Nd.alloc (n m : Int) (H : Nd w0 w p tp B t c u h l) :
    Calls Try.prog 9 #[.pointer (some ⟨p, 0, none⟩), .int .i64 n, .int .i64 m] w fun e w' => e = .returned (.tuple #[.int .i64 (allocR c u h n m).1, .int .i64 (allocR c u h n m).2.1]) ∧
      Nd w0 w' p tp B t c (allocR c u h n m).2.2.1 (allocR c u h n m).2.2.2 l := by
  obtain ⟨i1, i2, i3, i4⟩ := H.inn
  obtain ⟨⟨j1, j2, j3⟩, _⟩ := alloc_says c u h n m i1 i2 i3 i4
  refine (a_alloc n m H.ar H.below i1 i2 i3).mono ?_
  rintro e w' ⟨he, a, b, k⟩
  exact ⟨he, H.afterA a b k ⟨j1, j2, i3, j3⟩⟩
end

set_option maxHeartbeats 4000000 in
set_option maxRecDepth 100000 in
theorem walk (A : Option Addr) (cc : Nat) (t : List Int) (n : Int) (w : World) (hC : Kd.C (Kd.int .i64) w A t.length t) (hcc : t.length ≤ cc) (ht : t.length ≤ 9223372036854775807) :
    Calls Try.prog 3 #[.slice A t.length cc, .int .i64 n] w fun e w' => e = .returned (.bool true) ∧ Below w.heap.size w w' := by
  have HT := Aside0.mk ht
  obtain ⟨m1, hm1, m1a, m1b⟩ := mod_is n 1000 (by omega) (by omega)
  have HM1 := Aside0.mk hm1
  clear hm1
  have HCC := Aside0.mk hC
  clear hC
  go_enter Try.func3, Try.ntmps3
  go_wp2_with fail
  refine (tape_new HCC.out hcc).mono ?_
  rintro e w1 ⟨tp, rfl, t1, b1⟩
  have T1 := Aside0.mk t1
  have B1 := Aside0.mk b1
  clear t1 b1
  go_wp2_with fail
  refine (tilefarmgen_Mod.calls n 1000 m1 _ HM1.out).mono ?_
  rintro e w2 ⟨rfl, ⟨n1, rfl⟩⟩
  go_wp2_with fail
  have B2 := pw_below_drewN (Below.refl w1.heap.size w1) n1
  refine (a_new_ok (64 + m1) (by omega) (by omega) (below_then B1.out B1.out.size B2)).mono ?_
  rintro e w3 ⟨p, rfl, h3, hp, b3⟩
  have tl := T1.out.lt
  have hi0 : (0 : Int) ≤ 0 ∧ (0 : Int) ≤ 64 + m1 ∧ 64 + m1 ≤ 1048576 ∧ (0 : Int) ≤ 0 := by omega
  have H3 : Aside0 (Nd w w3 p tp w1.heap.size t (64 + m1) 0 0 []) := ⟨⟨h3, (T1.out.below B2).below b3, below_then (below_then B1.out B1.out.size B2) (below_then B1.out B1.out.size B2).size b3, tl, hp, hi0⟩⟩
  clear h3 b3 hi0 T1 B1 HM1 hp tl B2
  generalize hc : 64 + m1 = c at *
  have c0 : 64 ≤ c ∧ c < 1064 := by omega
  generalize w1.heap.size = B at *
  go_wp2_with fail
  refine (H3.out.next 30 HT.out (by omega) (by omega)).mono ?_
  rintro e w4 ⟨r, rfl, r0, r1, h4⟩
  have H4 := Aside0.mk h4
  clear h4 H3
  go_wp2_with fail
  refine (H4.out.alloc (1 + r) 1).mono ?_
  rintro e w5 ⟨rfl, h5⟩
  generalize (allocR c 0 0 (1 + r) 1).2.2.1 = u at *
  generalize (allocR c 0 0 (1 + r) 1).2.2.2 = hi at *
  have H5 := Aside0.mk h5
  clear h5 H4
  go_wp2_with fail
  refine (a_used H5.out.ar).mono ?_
  rintro e w' ⟨rfl, rfl⟩
  go_wp2_with fail
  refine (a_marks H5.out.ar).mono ?_
  rintro e w' ⟨rfl, rfl⟩
  go_wp2_with fail
  refine (a_mark H5.out.ar H5.out.below (by simp)).mono ?_
  rintro e w6 ⟨rfl, a6, b6, k6⟩
  have H6 : Aside0 (Nd w w6 p tp B t c u hi [u]) := ⟨H5.out.afterA a6 b6 k6 H5.out.inn⟩
  have hu := H5.out.inn
  clear a6 b6 k6 H5
  go_wp2_with fail
  go_loopw [11, 12] (fun v11 v12 wr => ∃ (k : Nat) (e h : Int), k ≤ 10 ∧ v11 = .int .i64 e ∧ v12 = .int .i64 (k : Int) ∧ Aside0 (Nd w wr p tp B t c e h [u])) (fun _ i _ => 10 - (intOf i).toNat)
  case atStart => exact ⟨0, u, hi, by omega, rfl, rfl, H6⟩
  case round =>
    clear H6
    obtain ⟨k, e0, h, hk, rfl, rfl, HS⟩ := hrel
    by_cases hlt : k < 10
    · go_wp2_with fail
      refine (HS.out.next 60 HT.out (by omega) (by omega)).mono ?_
      rintro e w7 ⟨r7, rfl, r70, r71, h7⟩
      have H8 := Aside0.mk (h7.below' (below_alloc (Below.refl w7.heap.size w7) (.cells #[.int .i64 1, .int .i64 16, .int .i64 8, .int .i64 5] 3)))
      have O8 := Aside0.mk (blk_new w7 (.cells #[.int .i64 1, .int .i64 16, .int .i64 8, .int .i64 5] 3))
      have G8 : Aside0 (w7.heap.size ≠ tp) := ⟨by have := h7.tape.lt; omega⟩
      clear h7 HS
      go_wp2_with fail
      refine (H8.out.pick [1, 16, 8, 5] HT.out (by simp) (by simp) O8.out G8.out).mono ?_
      rintro e w9 ⟨m, rfl, hm, h9⟩
      have hm1 : 1 ≤ m ∧ m ≤ 16 := by simp at hm; omega
      have H9 := Aside0.mk h9
      clear h9 H8 O8 G8 hm
      go_wp2_with fail
      obtain ⟨i1, i2, i3, i4⟩ := H9.out.inn
      have says := (alloc_says c e0 h (1 + r7) m i1 i2 i3 i4).2 (by omega)
      refine (H9.out.alloc (1 + r7) m).mono ?_
      rintro e w10 ⟨rfl, h10⟩
      generalize (allocR c e0 h (1 + r7) m).1 = x at *
      generalize (allocR c e0 h (1 + r7) m).2.1 = f at *
      generalize (allocR c e0 h (1 + r7) m).2.2.1 = u' at *
      generalize (allocR c e0 h (1 + r7) m).2.2.2 = h' at *
      have H10 := Aside0.mk h10
      clear h10 H9
      rcases says with ⟨rfl, rfl, rfl⟩ | ⟨rfl, s1, s2, s3, s4, rfl⟩
      · have ee : (u' != u') = false := by simp
        go_wp2_with (go_at_call 11; refine (a_used H10.out.ar).mono ?_; rintro e w5 ⟨rfl, rfl⟩)
        go_roundw
        case rel => exact ⟨k + 1, u', h', by omega, rfl, by go_num, H10⟩
        case measure => simp [intOf]; omega
      · have f1 : decide (x < e0) = false := decide_eq_false (by omega)
        have f2 : (m == 0) = false := beq_eq_false_iff_ne.mpr (by omega)
        have f3 : Int.tmod x m = 0 := by rw [Int.tmod_eq_emod_of_nonneg (by omega)]; exact s3
        have f4 : decide (x + (1 + r7) > c) = false := decide_eq_false (by omega)
        have f5 : decide (x - e0 ≥ m) = false := decide_eq_false (by omega)
        have f6 : (x + (1 + r7) != x + (1 + r7)) = false := by simp
        go_wp2_with (go_at_call 11; refine (a_used H10.out.ar).mono ?_; rintro e w5 ⟨rfl, rfl⟩)
        go_roundw
        case rel => exact ⟨k + 1, x + (1 + r7), h', by omega, rfl, by go_num, H10⟩
        case measure => simp [intOf]; omega
    · obtain rfl : k = 10 := by omega
      obtain ⟨i1, i2, i3, i4⟩ := HS.out.inn
      go_wp2_with fail
      refine (a_high HS.out.ar).mono ?_
      rintro e w5 ⟨rfl, rfl⟩
      go_wp2_with fail
      refine (a_release (l := []) HS.out.ar HS.out.below (by simp)).mono ?_
      rintro e w7 ⟨rfl, a7, b7, k7⟩
      have A7 := Aside0.mk a7
      have B7 := Aside0.mk b7
      clear a7 b7 k7 HS
      have uu : (u == u) = true := by simp
      have hh : (h == h) = true := by simp
      have he : decide (h ≥ e0) = true := decide_eq_true (by omega)
      go_wp2_with (first | (go_at_call 11; refine (a_used A7.out).mono ?_; rintro e w5 ⟨rfl, rfl⟩) | (go_at_call 12; refine (a_marks A7.out).mono ?_; rintro e w5 ⟨rfl, rfl⟩) | (go_at_call 15; refine (a_high A7.out).mono ?_; rintro e w5 ⟨rfl, rfl⟩) | (go_at_call 17; refine (sane_calls _).mono ?_; rintro e w8 ⟨rfl, b8⟩))
      go_ret
      exact ⟨rfl, below_then B7.out B7.out.size b8⟩

theorem law (a0 : Option Addr) (len0 cap0 : Nat) (z0 : List Int) (a1 : Int) (w : World)
    (w0 : (a0 = none ∧ len0 = 0 ∧ cap0 = 0 ∧ z0 = []) ∨ ∃ x, a0 = some x ∧ len0 ≤ cap0 ∧ cap0 ≤ maxLen ∧ z0.length = cap0 ∧ (∀ i, i < z0.length → w.cell? (x.add i) = some (.int .i64 (z0.getD i 0))) ∧ ∀ n ∈ z0, (Lit.int .i64 n).wf = true) :
    Calls Try.prog 3 #[.slice a0 len0 cap0, .int .i64 a1] w fun e w' => e = .returned (.bool true) ∧ Below w.heap.size w w' := by
  obtain ⟨l0, rfl, hr0, hm0, _, hc0⟩ := ReadsInt.ofRowC w0
  exact walk a0 cap0 l0 a1 w (Kd.C_of_reads (d := (0 : Int)) (h1 := fun _ => rfl) hr0) hc0 (by unfold maxLen at hm0; omega)

end Go.Proofs.Ytlnmgbimjenbfaa.Nested
