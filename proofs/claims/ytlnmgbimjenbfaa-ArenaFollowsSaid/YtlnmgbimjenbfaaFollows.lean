/- 'ArenaFollows' returns true for all inputs: the program's arena answers as the reference's does, call by call. No conditions. This text: the walk of the law. -/
import Derived.Test.YtlnmgbimjenbfaaAll
namespace Go.Proofs.Ytlnmgbimjenbfaa.Follows
open Go.RowKit Go.Proofs.YtlnmgbimjenbfaaW.PrintWords Go.Proofs.YtlnmgbimjenbfaaW.PrintLast Go.Proofs.YtlnmgbimjenbfaaW.PrintMore
open Go.Proofs.Ytlnmgbimjenbfaa.PArenaFollows
open Go.Proofs.Ytlnmgbimjenbfaa.Ar Go.Proofs.Ytlnmgbimjenbfaa.Tp Go.Proofs.Ytlnmgbimjenbfaa.All
set_option linter.unusedVariables false

set_option maxHeartbeats 4000000 in
set_option maxRecDepth 100000 in
theorem walk (A : Option Addr) (cc : Nat) (t : List Int) (n : Int) (A2 : Option Addr) (cc2 : Nat) (t2 : List Int) (w : World) (hC : Kd.C (Kd.int .i64) w A t.length t) (hcc : t.length ≤ cc) (ht : t.length ≤ 9223372036854775807)
    (hC2 : Kd.C (Kd.int .i64) w A2 t2.length t2) (hcc2 : t2.length ≤ cc2) (ht2 : t2.length ≤ 9223372036854775807) :
    Calls Try.prog 4 #[.slice A t.length cc, .int .i64 n, .slice A2 t2.length cc2] w fun e w' => e = .returned (.bool true) ∧ Below w.heap.size w w' := by
  have HT := Aside0.mk ht
  obtain ⟨m1, hm1, _, _⟩ := mod_is n 200 (by omega) (by omega)
  have HM1 := Aside0.mk hm1
  obtain ⟨m2, hm2, m2a, m2b⟩ := mod_is n 1048579 (by omega) (by omega)
  have HM2 := Aside0.mk hm2
  clear hm1 hm2
  have HCC := Aside0.mk hC
  have HC2 := Aside0.mk hC2
  clear hC hC2
  go_enter Try.func4, Try.ntmps4
  go_wp2_with fail
  refine (tape_new HCC.out hcc).mono ?_
  rintro e w1 ⟨tp, rfl, t1, b1⟩
  have T1 := Aside0.mk t1
  have B1 := Aside0.mk b1
  clear t1 b1
  go_wp2_with fail
  refine (tilefarmgen_Mod.calls n 200 m1 _ HM1.out).mono ?_
  rintro e w2 ⟨rfl, ⟨n1, rfl⟩⟩
  go_wp2_with fail
  refine (tilefarmgen_Mod.calls n 1048579 m2 _ HM2.out).mono ?_
  rintro e w2 ⟨rfl, ⟨n2, rfl⟩⟩
  go_wp2_with fail
  have T2 : Aside0 (OnTape w ((w1.drewN (n1 + n2)).alloc (.cells #[.int .i64 n, .int .i64 m1, .int .i64 (m2 - 1)] 3)) tp t) := ⟨T1.out.kept (((Kept.refl w1 (fun _ => False)).drewN _).alloc _) id⟩
  have B2 : Aside0 (Below w.heap.size w ((w1.drewN (n1 + n2)).alloc (.cells #[.int .i64 n, .int .i64 m1, .int .i64 (m2 - 1)] 3))) := ⟨below_alloc (pw_below_drewN B1.out _) _⟩
  have o2 : Aside0 (((w1.drewN (n1 + n2)).alloc (.cells #[.int .i64 n, .int .i64 m1, .int .i64 (m2 - 1)] 3)).heap[w1.heap.size]? = some (.cells #[.int .i64 n, .int .i64 m1, .int .i64 (m2 - 1)] 3 (0, 0))) := ⟨blk_new (w1.drewN (n1 + n2)) _⟩
  have n3 : Aside0 (w1.heap.size ≠ tp) := ⟨by have := T1.out.lt; omega⟩
  refine (next_calls 3 T2.out B2.out HT.out (by omega) (by omega)).mono ?_
  rintro e w3 ⟨r, rfl, r0, r1, t3, b3, k3⟩
  have o3 := blk_kept o2.out k3 n3.out
  obtain ⟨r, rfl⟩ := Int.eq_ofNat_of_zero_le r0
  obtain ⟨c, hc⟩ : ∃ c, w3.cell? ⟨w1.heap.size, r, none⟩ = some (.int .i64 c) := by
    rw [blk_cell o3]
    match r, r1 with
    | 0, _ => exact ⟨_, rfl⟩
    | 1, _ => exact ⟨_, rfl⟩
    | 2, _ => exact ⟨_, rfl⟩
    | q + 3, h => omega
  have T3 := Aside0.mk t3
  have B3 := Aside0.mk b3
  clear t3 b3 k3 o3 o2 T2 B2 T1 B1 HM1 HM2 n3
  go_wp2_with fail
  obtain ⟨m, q, hnew⟩ := news c T3.out B3.out
  refine hnew.mono ?_
  clear hnew
  rintro e w4 ⟨va, rfl, hnew⟩
  have HN := Aside0.mk hnew
  clear hnew
  go_wp2_with fail
  refine HN.out.mono ?_
  rintro e w5 ⟨vb, rfl, hnil, hst⟩
  have HS := Aside0.mk hst
  have HNIL := Aside0.mk hnil
  clear hst hnil HN T3 B3
  have qq : (q != q) = false := by simp
  obtain ⟨bz, g1, g2, e1, e2⟩ : ∃ bz : Bool, (∀ w, Sem.run Try.prog (eqGuard BinOp.eql 26 (Operand.tmp 49) (Operand.const (Value.pointer none)) va (Value.pointer none)) w = .ok () w) ∧
      (∀ w, Sem.run Try.prog (eqGuard BinOp.eql 38 (Operand.tmp 51) (Operand.const (Value.pointer none)) vb (Value.pointer none)) w = .ok () w) ∧
      (∀ w, Sem.run Try.prog (binOp BinOp.eql 26 va (Value.pointer none)) w = .ok (.bool bz) w) ∧ (∀ w, Sem.run Try.prog (binOp BinOp.eql 38 vb (Value.pointer none)) w = .ok (.bool bz) w) := by
    rcases HNIL.out with ⟨rfl, rfl⟩ | ⟨⟨pa, rfl⟩, ⟨pb, rfl⟩⟩
    · exact ⟨true, fun w => by go_simp, fun w => by go_simp, fun w => by go_simp, fun w => by go_simp⟩
    · exact ⟨false, fun w => by go_simp, fun w => by go_simp, fun w => by go_simp, fun w => by go_simp⟩
  have zz : (bz != bz) = false := by simp
  clear HNIL
  go_wp2_with fail
  go_loopw [13] (fun i wr => ∃ k : Nat, k ≤ 40 ∧ i = .int .i64 (k : Int) ∧ ∃ (u h : Int) (l : List Int), Aside0 (St w wr va vb m u h l u h l tp t)) (fun i _ => 40 - (intOf i).toNat)
  case atStart => exact ⟨0, by omega, rfl, 0, 0, [], HS⟩
  case round =>
    clear HS
    obtain ⟨k, hk, rfl, u, h, l, HS⟩ := hrel
    by_cases hlt : k < 40
    · go_wp2_with fail
      refine HS.out.left.mono ?_
      rintro e w6 ⟨lb, rfl, h6⟩
      have H6 := Aside0.mk h6
      clear h6 HS
      cases lb with
      | false =>
        go_wp2_with fail
        refine (sane_calls _).mono ?_
        rintro e w7 ⟨rfl, b7⟩
        go_wp2_with fail
        go_ret
        exact ⟨rfl, below_then H6.out.below H6.out.below.size b7⟩
      | true =>
        go_wp2_with fail
        refine (H6.out.next 40 HT.out (by omega) (by omega)).mono ?_
        rintro e w7 ⟨r7, rfl, _, _, h7⟩
        have H7 := Aside0.mk (h7.below' (below_alloc (Below.refl w7.heap.size w7) (.cells #[.int .i64 r7, .int .i64 1, .int .i64 0, .int .i64 1048576, .int .i64 (-1)] 3)))
        have O7 := Aside0.mk (blk_new w7 (.cells #[.int .i64 r7, .int .i64 1, .int .i64 0, .int .i64 1048576, .int .i64 (-1)] 3))
        have N7 : Aside0 (w7.heap.size ≠ tp) := ⟨by have := h7.tape.lt; omega⟩
        clear h7 H6
        go_wp2_with fail
        refine (H7.out.pick [r7, 1, 0, 1048576, -1] HT.out (by simp) (by simp) O7.out N7.out).mono ?_
        rintro e w8 ⟨a0, rfl, _, h8⟩
        have H8 := Aside0.mk (h8.below' (below_alloc (Below.refl w8.heap.size w8) (.cells #[.int .i64 1, .int .i64 16, .int .i64 8, .int .i64 3, .int .i64 0, .int .i64 4096, .int .i64 4097] 3)))
        have O8 := Aside0.mk (blk_new w8 (.cells #[.int .i64 1, .int .i64 16, .int .i64 8, .int .i64 3, .int .i64 0, .int .i64 4096, .int .i64 4097] 3))
        have N8 : Aside0 (w8.heap.size ≠ tp) := ⟨by have := h8.tape.lt; omega⟩
        clear h8 H7 O7 N7
        go_wp2_with fail
        refine (H8.out.pick [1, 16, 8, 3, 0, 4096, 4097] HT.out (by simp) (by simp) O8.out N8.out).mono ?_
        rintro e w9 ⟨b0, rfl, _, h9⟩
        have H9 := Aside0.mk h9
        clear h9 H8 O8 N8
        go_upto_region 11 with (fail)
        go_cut [79] (fun v79 wx => ∃ b : Bool, v79 = .bool b ∧ (b = true → k < t2.length) ∧ Aside0 (St w wx va vb m u h l u h l tp t))
        case first =>
          by_cases hi : (k : Int) < (t2.length : Int)
          · go_wp2_with fail
            refine (H9.out.next 4 HT.out (by omega) (by omega)).mono ?_
            rintro e w10 ⟨r10, rfl, _, _, h10⟩
            have H10 := Aside0.mk h10
            clear h10 H9
            go_wp2_with fail
            go_meet
            exact ⟨_, rfl, fun _ => by omega, H10⟩
          · go_wp2_with fail
            go_meet
            exact ⟨_, rfl, fun h => by simp at h, H9⟩
        case rest =>
          obtain ⟨b, rfl, hb, HB⟩ := hcut
          clear H9
          go_upto_if 79 with (fail)
          go_cut [14, 15] (fun v14 v15 wx => ∃ n0 m0 : Int, v14 = .int .i64 n0 ∧ v15 = .int .i64 m0 ∧ Aside0 (St w wx va vb m u h l u h l tp t))
          case first =>
            cases b with
            | false =>
              go_wp2_with fail
              go_meet
              exact ⟨_, _, rfl, rfl, HB⟩
            | true =>
              have hk2 := hb rfl
              have C2 := Kd.C_below HC2.out HB.out.below
              obtain ⟨ad, rfl, x0⟩ := Kd.at_int C2 (k : Int) (by omega) (by omega)
              obtain ⟨j, hj⟩ : ∃ j : Nat, (t2.length : Int) - 1 - (k : Int) = (j : Int) := ⟨t2.length - 1 - k, by omega⟩
              obtain ⟨ad', e', x1⟩ := Kd.at_int C2 (j : Int) (by omega) (by omega)
              cases e'
              clear C2
              rw [Int.toNat_natCast] at x0 x1
              have y0 : (0 : Int) ≤ (k : Int) := by omega
              have y1 : (k : Int) < (t2.length : Int) := by omega
              have y2 : (0 : Int) ≤ (j : Int) := by omega
              have y3 : (j : Int) < (t2.length : Int) := by omega
              have wk : IntKind.i64.wrap (t2.length : Int) = (t2.length : Int) := IntWalk.i64_in _ (by omega)
              have w1' : IntKind.i64.wrap ((t2.length : Int) - 1) = (t2.length : Int) - 1 := IntWalk.i64_in _ (by omega)
              have w2' : IntKind.i64.wrap ((t2.length : Int) - 1 - (k : Int)) = (j : Int) := by rw [hj]; exact IntWalk.i64_in _ (by omega)
              go_wp2_with fail
              go_region
              go_wp2_with fail
              go_meet
              exact ⟨_, _, rfl, rfl, ⟨HB.out.below' (below_drew (Below.refl _ _))⟩⟩
          case rest =>
            obtain ⟨n0, m0, rfl, rfl, HD⟩ := hcut
            clear HB hb
            go_wp2_with fail
            refine (HD.out.next 6 HT.out (by omega) (by omega)).mono ?_
            rintro e w11 ⟨s, rfl, s0, s1, h11⟩
            have H11 := Aside0.mk h11
            clear h11 HD
            go_upto_block 2 with (fail)
            go_cut [16, 17] (fun v16 v17 wx => ∃ (p0 u h : Int) (l : List Int), v16 = .int .i64 p0 ∧ v17 = .int .i64 p0 ∧ Aside0 (St w wx va vb m u h l u h l tp t))
            case first =>
              by_cases ha : s = 0 ∨ s = 1 ∨ s = 2
              · have xx : ((allocM m u h n0 m0).1 != (allocM m u h n0 m0).1) = false := by simp
                generalize hx : (allocM m u h n0 m0).1 = x at *
                rcases ha with rfl | rfl | rfl
                · go_wp2_with fail
                  refine (allocA n0 m0 H11.out).mono ?_
                  rintro e w12 ⟨rfl, h12⟩
                  have H12 := Aside0.mk h12
                  clear h12 H11
                  rw [hx]
                  go_wp2_with fail
                  refine (allocB n0 m0 H12.out).mono ?_
                  rintro e w13 ⟨rfl, h13⟩
                  have H13 := Aside0.mk h13
                  clear h13 H12
                  rw [hx]
                  go_wp2_with fail
                  go_meet
                  exact ⟨_, _, _, _, rfl, rfl, H13⟩
                · go_wp2_with fail
                  refine (allocA n0 m0 H11.out).mono ?_
                  rintro e w12 ⟨rfl, h12⟩
                  have H12 := Aside0.mk h12
                  clear h12 H11
                  rw [hx]
                  go_wp2_with fail
                  refine (allocB n0 m0 H12.out).mono ?_
                  rintro e w13 ⟨rfl, h13⟩
                  have H13 := Aside0.mk h13
                  clear h13 H12
                  rw [hx]
                  go_wp2_with fail
                  go_meet
                  exact ⟨_, _, _, _, rfl, rfl, H13⟩
                · go_wp2_with fail
                  refine (allocA n0 m0 H11.out).mono ?_
                  rintro e w12 ⟨rfl, h12⟩
                  have H12 := Aside0.mk h12
                  clear h12 H11
                  rw [hx]
                  go_wp2_with fail
                  refine (allocB n0 m0 H12.out).mono ?_
                  rintro e w13 ⟨rfl, h13⟩
                  have H13 := Aside0.mk h13
                  clear h13 H12
                  rw [hx]
                  go_wp2_with fail
                  go_meet
                  exact ⟨_, _, _, _, rfl, rfl, H13⟩
              · rcases (by omega : s = 3 ∨ s = 4 ∨ s = 5) with rfl | rfl | rfl
                · clear ha
                  go_wp2_with fail
                  refine (markA H11.out).mono ?_
                  rintro e w12 ⟨rfl, h12⟩
                  have H12 := Aside0.mk h12
                  clear h12 H11
                  go_wp2_with fail
                  refine (markB H12.out).mono ?_
                  rintro e w13 ⟨rfl, h13⟩
                  have H13 := Aside0.mk h13
                  clear h13 H12
                  go_wp2_with fail
                  go_meet
                  exact ⟨_, _, _, _, rfl, rfl, H13⟩
                · clear ha
                  go_wp2_with fail
                  refine (releaseA H11.out).mono ?_
                  rintro e w12 ⟨rfl, h12⟩
                  have H12 := Aside0.mk h12
                  clear h12 H11
                  go_wp2_with fail
                  refine (releaseB H12.out).mono ?_
                  rintro e w13 ⟨rfl, h13⟩
                  have H13 := Aside0.mk h13
                  clear h13 H12
                  go_wp2_with fail
                  go_meet
                  exact ⟨_, _, _, _, rfl, rfl, H13⟩
                · clear ha
                  go_wp2_with fail
                  refine (H11.out.next 3 HT.out (by omega) (by omega)).mono ?_
                  rintro e w12 ⟨r12, rfl, _, _, h12⟩
                  have H12 := Aside0.mk h12
                  clear h12 H11
                  by_cases hr : (r12 == 2) = true
                  · go_wp2_with fail
                    refine (resetA H12.out).mono ?_
                    rintro e w13 ⟨rfl, h13⟩
                    have H13 := Aside0.mk h13
                    clear h13 H12
                    go_wp2_with fail
                    refine (resetB H13.out).mono ?_
                    rintro e w14 ⟨rfl, h14⟩
                    have H14 := Aside0.mk h14
                    clear h14 H13
                    go_wp2_with fail
                    go_meet
                    exact ⟨_, _, _, _, rfl, rfl, H14⟩
                  · have hr : (r12 == 2) = false := by simpa using hr
                    go_wp2_with fail
                    go_meet
                    exact ⟨_, _, _, _, rfl, rfl, H12⟩
            case rest =>
              obtain ⟨p0, u', h', l', rfl, rfl, HC⟩ := hcut
              have e3 : (p0 != p0) = false := by simp
              have e4 : (u' != u') = false := by simp
              have e5 : (h' != h') = false := by simp
              have e6 : ((l'.length : Int) != (l'.length : Int)) = false := by simp
              clear H11
              go_wp2_with (first | (go_at_call 11; refine (usedA HC.out).mono ?_; rintro e w5 ⟨rfl, rfl⟩) | (go_at_call 25; refine (usedB HC.out).mono ?_; rintro e w5 ⟨rfl, rfl⟩) | (go_at_call 15; refine (highA HC.out).mono ?_; rintro e w5 ⟨rfl, rfl⟩) | (go_at_call 26; refine (highB HC.out).mono ?_; rintro e w5 ⟨rfl, rfl⟩) | (go_at_call 12; refine (marksA HC.out).mono ?_; rintro e w5 ⟨rfl, rfl⟩) | (go_at_call 27; refine (marksB HC.out).mono ?_; rintro e w5 ⟨rfl, rfl⟩))
              go_roundw
              case rel => exact ⟨k + 1, by omega, by go_num, u', h', l', HC⟩
              case measure => simp [intOf]; omega
    · obtain rfl : k = 40 := by omega
      go_wp2_with fail
      refine (sane_calls _).mono ?_
      rintro e w7 ⟨rfl, b7⟩
      go_wp2_with fail
      go_ret
      exact ⟨rfl, below_then HS.out.below HS.out.below.size b7⟩

def IsRow' (w : World) (a : Option Addr) (len cap : Nat) (z : List Int) : Prop :=
  (a = none ∧ len = 0 ∧ cap = 0 ∧ z = []) ∨ ∃ x, a = some x ∧ len ≤ cap ∧ cap ≤ maxLen ∧ z.length = cap ∧ (∀ i, i < z.length → w.cell? (x.add i) = some (.int .i64 (z.getD i 0))) ∧ ∀ n ∈ z, (Lit.int .i64 n).wf = true

theorem law (a0 : Option Addr) (len0 cap0 : Nat) (z0 : List Int) (a1 : Int) (a2 : Option Addr) (len2 cap2 : Nat) (z2 : List Int) (w : World) (w0 : IsRow' w a0 len0 cap0 z0) (w2 : IsRow' w a2 len2 cap2 z2) :
    Calls Try.prog 4 #[.slice a0 len0 cap0, .int .i64 a1, .slice a2 len2 cap2] w fun e w' => e = .returned (.bool true) ∧ Below w.heap.size w w' := by
  obtain ⟨l0, rfl, hr0, hm0, _, hc0⟩ := ReadsInt.ofRowC w0
  obtain ⟨l2, rfl, hr2, hm2, _, hc2⟩ := ReadsInt.ofRowC w2
  exact walk a0 cap0 l0 a1 a2 cap2 l2 w (Kd.C_of_reads (d := (0 : Int)) (h1 := fun _ => rfl) hr0) hc0 (by unfold maxLen at hm0; omega) (Kd.C_of_reads (d := (0 : Int)) (h1 := fun _ => rfl) hr2) hc2 (by unfold maxLen at hm2; omega)

end Go.Proofs.Ytlnmgbimjenbfaa.Follows
