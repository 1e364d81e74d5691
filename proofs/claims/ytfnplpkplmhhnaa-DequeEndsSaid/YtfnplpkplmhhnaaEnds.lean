/- 'DequeEnds' returns true for all inputs: popped tasks come back in the opposite order of pushing, stolen ones in the same order, each exactly once. No conditions. This text: the walk of the law over the walked methods. -/
import Derived.Test.YtfnplpkplmhhnaaTp
namespace Go.Proofs.Ytfnplpkplmhhnaa.Ends
open Go.RowKit Go.Proofs.YtfnplpkplmhhnaaW.PrintWords Go.Proofs.YtfnplpkplmhhnaaW.PrintLast Go.Proofs.YtfnplpkplmhhnaaW.PrintMore
open Go.Proofs.Ytfnplpkplmhhnaa.PDequeFollows
open Go.Proofs.Ytfnplpkplmhhnaa.Dq Go.Proofs.Ytfnplpkplmhhnaa.Tp
set_option linter.unusedVariables false

/-- The tasks numbered lo, lo + 1, .., n of them. -/
def run (lo n : Nat) : List S32 := (List.range n).map fun (i : Nat) => ⟨0, ((lo + i : Nat) : Int)⟩
theorem run_length (lo n : Nat) : (run lo n).length = n := by simp [run]
theorem run_snoc (lo n : Nat) : run lo (n + 1) = run lo n ++ [⟨0, ((lo + n : Nat) : Int)⟩] := by unfold run; rw [List.range_succ]; simp
theorem run_cons (lo n : Nat) : run lo (n + 1) = ⟨0, (lo : Int)⟩ :: run (lo + 1) n := by
  unfold run
  rw [List.range_succ_eq_map]
  simp only [List.map_cons, List.map_map, Nat.add_zero]
  congr 1
  apply List.map_congr_left
  intro i _
  simp only [Function.comp]
  congr 2
  omega

set_option maxHeartbeats 2000000 in
set_option maxRecDepth 100000 in
theorem walk (A : Option Addr) (cc : Nat) (t : List Int) (n : Int) (w : World) (hC : Kd.C (Kd.int .i64) w A t.length t) (hcc : t.length ≤ cc) (ht : t.length ≤ 9223372036854775807) :
    Calls Try.prog 3 #[.slice A t.length cc, .int .i64 n] w fun e w' => e = .returned (.bool true) ∧ Below w.heap.size w w' := by
  have HT := Aside0.mk ht
  obtain ⟨m, hm, m0, m1⟩ := mod_is n 40 (by omega) (by omega)
  have HM := Aside0.mk hm
  clear hm
  obtain ⟨m, rfl⟩ := Int.eq_ofNat_of_zero_le m0
  have HCC := Aside0.mk hC
  clear hC
  go_enter Try.func3, Try.ntmps3
  go_wp2_with fail
  refine (tape_new HCC.out hcc).mono ?_
  rintro e w1 ⟨tp, rfl, t1, b1⟩
  have T1 := Aside0.mk t1
  have B1 := Aside0.mk b1
  clear t1 b1
  go_wp2_with fail
  refine (tilefarmgen_Mod.calls n 40 m _ HM.out).mono ?_
  rintro e w2 ⟨rfl, ⟨nd, rfl⟩⟩
  go_wp2_with fail
  obtain ⟨q, hq, q1, q2⟩ : ∃ q : Nat, 1 + (m : Int) = (q : Int) ∧ 1 ≤ q ∧ q ≤ 40 := ⟨1 + m, by omega, by omega, by omega⟩
  rw [hq]
  clear hq m0 m1 HM
  have B2 : Aside0 (Below w.heap.size w (w1.drewN nd)) := ⟨pw_below_drewN B1.out nd⟩
  refine (new_ok q q1 (by omega) B2.out).mono ?_
  rintro e w3 ⟨p, g, rfl, hd, hp, hg, hb⟩
  have hlt := T1.out.lt
  have T3 : Aside0 (OnTape w w3 tp t) := ⟨T1.out.kept (Kept.of_below (below_step (pw_below_drewN (Below.refl _ _) nd) hb) (fun _ => False)) id⟩
  have N1 : Aside0 (tp ≠ p ∧ tp ≠ g) := ⟨by simp at hp hg; omega⟩
  have D3 := Aside0.mk hd
  have B3 := Aside0.mk (below_then B2.out B2.out.size hb)
  clear hd hb hp hg hlt T1 B1 B2
  go_wp2_with fail
  go_loopw [9] (fun i wr => ∃ k : Nat, k ≤ q ∧ i = .int .i64 (k : Int) ∧ Aside0 (Dq w wr p g q 0 (run 0 k)) ∧ Aside0 (Below w.heap.size w wr) ∧ Aside0 (OnTape w wr tp t)) (fun i _ => q - (intOf i).toNat)
  case atStart => exact ⟨0, by omega, rfl, D3, B3, T3⟩
  case round =>
    clear D3 B3 T3
    obtain ⟨k, hk, rfl, HD, HB, HT3⟩ := hrel
    by_cases hlt : k < q
    · go_wp2_with fail
      refine (push_ok ⟨0, (k : Int)⟩ HD.out HB.out (by rw [run_length]; exact hlt)).mono ?_
      rintro e w4 ⟨rfl, d4, b4, k4⟩
      go_wp2_with fail
      go_roundw
      case rel => exact ⟨k + 1, by omega, by go_num, ⟨by rw [run_snoc, Nat.zero_add]; exact d4⟩, ⟨b4⟩, ⟨HT3.out.kept k4 (fun h => h.elim N1.out.1 N1.out.2)⟩⟩
      case measure => simp [intOf]; omega
    · obtain rfl : k = q := by omega
      go_wp2_with fail
      go_loopw [10, 11, 12, 13, 14, 15] (fun lo hi _ _ _ _ wr => ∃ a b : Nat, lo = .int .i64 (a : Int) ∧ hi = .int .i64 ((b : Int) - 1) ∧ a ≤ b ∧ b ≤ k ∧ (∃ tt, Dq w wr p g k tt (run a (b - a))) ∧ Aside0 (Below w.heap.size w wr) ∧ Aside0 (OnTape w wr tp t)) (fun lo hi _ _ _ _ _ => (intOf hi + 1).toNat - (intOf lo).toNat)
      case atStart => exact ⟨0, k, rfl, rfl, by omega, by omega, ⟨0, by simpa using HD.out⟩, HB, HT3⟩
      case round =>
        clear HD HB HT3
        obtain ⟨a, b, rfl, rfl, hab, hbk, ⟨tt, hd⟩, HB, HT3⟩ := hrel
        have HD := Aside0.mk hd
        clear hd
        by_cases hlt2 : a < b
        · obtain ⟨d, rfl⟩ : ∃ d, b = a + d + 1 := ⟨b - a - 1, by omega⟩
          have e1 : a + d + 1 - a = d + 1 := by omega
          have ab : (a : Int) ≤ ((a + d + 1 : Nat) : Int) - 1 := by omega
          go_wp2_with fail
          refine (next_calls 2 HT3.out HB.out HT.out (by omega) (by omega)).mono ?_
          rintro e w4 ⟨r, rfl, r0, r1, t4, b4, k4⟩
          have d4 := HD.out.kept k4 (fun h => N1.out.1 h.symm) (fun h => N1.out.2 h.symm)
          rw [e1] at d4
          have D4 := Aside0.mk d4
          have B4 := Aside0.mk b4
          have T4 := Aside0.mk t4
          clear d4 b4 t4 k4 HD HB HT3 e1
          by_cases hr : (r == 0) = true
          · go_wp2_with fail
            have d4 := D4.out
            rw [run_snoc] at d4
            refine (pop_ok d4 B4.out).mono ?_
            clear d4
            rintro e w5 ⟨rfl, d5, b5, k5⟩
            have D5 := Aside0.mk d5
            have B5 := Aside0.mk b5
            have T5 := Aside0.mk (T4.out.kept k5 (fun h => h.elim N1.out.1 N1.out.2))
            clear d5 b5 k5 D4 B4 T4
            go_wp2_with fail
            go_roundw
            case rel =>
              refine ⟨a, a + d, rfl, by go_num, by omega, by omega, ⟨tt, ?_⟩, ⟨below_alloc B5.out _⟩, ⟨T5.out.kept ((Kept.refl _ (fun _ => False)).alloc _) id⟩⟩
              rw [show a + d - a = d by omega]
              exact D5.out.below (below_alloc (Below.refl _ _) _)
            case measure => simp [intOf]; omega
          · have hr : (r == 0) = false := by simpa using hr
            go_wp2_with fail
            have d4 := D4.out
            rw [run_cons] at d4
            refine (steal_ok d4 B4.out).mono ?_
            clear d4
            rintro e w5 ⟨rfl, ⟨t5, d5⟩, b5, k5⟩
            have D5 := Aside0.mk d5
            have B5 := Aside0.mk b5
            have T5 := Aside0.mk (T4.out.kept k5 (fun h => h.elim N1.out.1 N1.out.2))
            clear d5 b5 k5 D4 B4 T4
            go_wp2_with fail
            go_roundw
            case rel =>
              refine ⟨a + 1, a + d + 1, by go_num, by go_num, by omega, by omega, ⟨t5, ?_⟩, ⟨below_alloc B5.out _⟩, ⟨T5.out.kept ((Kept.refl _ (fun _ => False)).alloc _) id⟩⟩
              rw [show a + d + 1 - (a + 1) = d by omega]
              exact D5.out.below (below_alloc (Below.refl _ _) _)
            case measure => simp [intOf]; omega
        · obtain rfl : a = b := by omega
          have d4 := HD.out
          rw [Nat.sub_self] at d4
          have hpl := blk_lt d4.obj
          have c2 := d4.c2
          have D4 := Aside0.mk d4
          have aa : ¬ (a : Int) ≤ (a : Int) - 1 := by omega
          clear d4 HD
          go_wp2_with fail
          refine (pop_none p _ hpl c2).mono ?_
          rintro e w4 ⟨rfl, b4⟩
          have D5 := Aside0.mk (D4.out.below b4)
          have B5 := Aside0.mk (below_then HB.out HB.out.size b4)
          clear b4 c2 D4 HB hpl
          go_wp2_with fail
          have bz := below_alloc (Below.refl w4.heap.size w4) (.cells #[.int .i64 0, .int .i64 0] 32)
          refine (len_calls p 0 _ ((D5.out.below bz).c2)).mono ?_
          rintro e w6 ⟨rfl, rfl⟩
          go_wp2_with fail
          refine (sane_calls _).mono ?_
          rintro e w7 ⟨rfl, b7⟩
          go_wp2_with fail
          go_ret
          exact ⟨rfl, below_then (below_alloc B5.out _) (below_alloc B5.out _).size b7⟩

theorem law (a0 : Option Addr) (len0 cap0 : Nat) (z0 : List Int) (a1 : Int) (w : World)
    (w0 : (a0 = none ∧ len0 = 0 ∧ cap0 = 0 ∧ z0 = []) ∨ ∃ x, a0 = some x ∧ len0 ≤ cap0 ∧ cap0 ≤ maxLen ∧ z0.length = cap0 ∧ (∀ i, i < z0.length → w.cell? (x.add i) = some (.int .i64 (z0.getD i 0))) ∧ ∀ n ∈ z0, (Lit.int .i64 n).wf = true) :
    Calls Try.prog 3 #[.slice a0 len0 cap0, .int .i64 a1] w fun e w' => e = .returned (.bool true) ∧ Below w.heap.size w w' := by
  obtain ⟨l0, rfl, hr0, hm0, _, hc0⟩ := ReadsInt.ofRowC w0
  exact walk a0 cap0 l0 a1 w (Kd.C_of_reads (d := (0 : Int)) (h1 := fun _ => rfl) hr0) hc0 (by unfold maxLen at hm0; omega)

end Go.Proofs.Ytfnplpkplmhhnaa.Ends
