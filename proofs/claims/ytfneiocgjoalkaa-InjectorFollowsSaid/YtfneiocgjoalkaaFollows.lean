/- 'InjectorFollows' returns true for all inputs: the program's injector answers as the reference's does, call by call. No conditions. This text: the walk of the law. -/
import Derived.Test.YtfneiocgjoalkaaAll
namespace Go.Proofs.Ytfneiocgjoalkaa.Follows
open Go.RowKit Go.Proofs.YtfneiocgjoalkaaW.PrintWords Go.Proofs.YtfneiocgjoalkaaW.PrintLast Go.Proofs.YtfneiocgjoalkaaW.PrintMore
open Go.Proofs.Ytfneiocgjoalkaa.PInjectorFollows
open Go.Proofs.Ytfneiocgjoalkaa.Ij
open Go.Proofs.Ytfneiocgjoalkaa.Rm (keep keepL tot_keep)
open Go.Proofs.Ytfneiocgjoalkaa.Tp Go.Proofs.Ytfneiocgjoalkaa.Both Go.Proofs.Ytfneiocgjoalkaa.All
set_option linter.unusedVariables false
attribute [local go_sem high] eqA33
attribute [local go_sem] refV

set_option maxHeartbeats 4000000 in
set_option maxRecDepth 100000 in
theorem walk (A : Option Addr) (cc : Nat) (t : List Int) (n band : Int) (w : World) (hC : Kd.C (Kd.int .i64) w A t.length t) (hcc : t.length ≤ cc) (ht : t.length ≤ 9223372036854775807) :
    Calls Try.prog 4 #[.slice A t.length cc, .int .i64 n, .int .i64 band] w fun e w' => e = .returned (.bool true) ∧ Below w.heap.size w w' := by
  have HT := Aside0.mk ht
  obtain ⟨m1, hm1, _, _⟩ := mod_is n 8 (by omega) (by omega)
  have HM1 := Aside0.mk hm1
  obtain ⟨m2, hm2, m2a, m2b⟩ := mod_is n 4098 (by omega) (by omega)
  have HM2 := Aside0.mk hm2
  clear hm1 hm2
  have HCC := Aside0.mk hC
  clear hC
  go_enter Try.func4, Try.ntmps4
  go_wp2_with fail
  refine (tape_new HCC.out hcc).mono ?_
  rintro e w1 ⟨tp, rfl, t1, b1⟩
  have T1 := Aside0.mk t1
  have B1 := Aside0.mk b1
  clear t1 b1
  go_wp2_with fail
  refine (tilefarmgen_Mod.calls n 8 m1 _ HM1.out).mono ?_
  rintro e w2 ⟨rfl, ⟨n1, rfl⟩⟩
  go_wp2_with fail
  refine (tilefarmgen_Mod.calls n 4098 m2 _ HM2.out).mono ?_
  rintro e w2 ⟨rfl, ⟨n2, rfl⟩⟩
  go_wp2_with fail
  have T2 : Aside0 (OnTape w ((w1.drewN (n1 + n2)).alloc (.cells #[.int .i64 n, .int .i64 m1, .int .i64 m2] 3)) tp t) := ⟨T1.out.kept (((Kept.refl w1 (fun _ => False)).drewN _).alloc _) id⟩
  have B2 : Aside0 (Below w.heap.size w ((w1.drewN (n1 + n2)).alloc (.cells #[.int .i64 n, .int .i64 m1, .int .i64 m2] 3))) := ⟨below_alloc (pw_below_drewN B1.out _) _⟩
  have o2 : Aside0 (((w1.drewN (n1 + n2)).alloc (.cells #[.int .i64 n, .int .i64 m1, .int .i64 m2] 3)).heap[w1.heap.size]? = some (.cells #[.int .i64 n, .int .i64 m1, .int .i64 m2] 3 (0, 0))) := ⟨blk_new (w1.drewN (n1 + n2)) _⟩
  have n3 : Aside0 (w1.heap.size ≠ tp) := ⟨by have := T1.out.lt; omega⟩
  refine (next_calls 3 T2.out B2.out HT.out (by omega) (by omega)).mono ?_
  rintro e w3 ⟨r, rfl, r0, r1, t3, b3, k3⟩
  have o3 := blk_kept o2.out k3 n3.out
  obtain ⟨r, rfl⟩ := Int.eq_ofNat_of_zero_le r0
  obtain ⟨c, hc⟩ : ∃ c, w3.cell? ⟨w1.heap.size, r, none⟩ = some (.int .i64 c) := by
    rw [blk_cell o3]
    match r, r1 with
    | 0, _ => exact ⟨_, rfl⟩
    | 1, _ => exact ⟨_, rfl⟩
    | 2, _ => exact ⟨_, rfl⟩
    | q + 3, h => omega
  have T3 := Aside0.mk t3
  have B3 := Aside0.mk b3
  clear t3 b3 k3 o3 o2 T2 B2 T1 B1 HM1 HM2 n3
  go_wp2_with fail
  obtain ⟨m, q, hnew⟩ := news c T3.out B3.out
  refine hnew.mono ?_
  clear hnew
  rintro e w4 ⟨va, rfl, hnew⟩
  have HN := Aside0.mk hnew
  clear hnew
  go_wp2_with fail
  refine HN.out.mono ?_
  rintro e w5 ⟨vb, rfl, hnil, hst⟩
  have HS := Aside0.mk hst
  have HNIL := Aside0.mk hnil
  clear hst hnil HN T3 B3
  have qq : (q != q) = false := by simp
  obtain ⟨bz, g1, g2, e1, e2⟩ : ∃ bz : Bool, (∀ w, Sem.run Try.prog (eqGuard BinOp.eql 25 (Operand.tmp 47) (Operand.const (Value.pointer none)) va (Value.pointer none)) w = .ok () w) ∧
      (∀ w, Sem.run Try.prog (eqGuard BinOp.eql 39 (Operand.tmp 49) (Operand.const (Value.pointer none)) vb (Value.pointer none)) w = .ok () w) ∧
      (∀ w, Sem.run Try.prog (binOp BinOp.eql 25 va (Value.pointer none)) w = .ok (.bool bz) w) ∧ (∀ w, Sem.run Try.prog (binOp BinOp.eql 39 vb (Value.pointer none)) w = .ok (.bool bz) w) := by
    rcases HNIL.out with ⟨rfl, rfl⟩ | ⟨⟨pa, rfl⟩, ⟨pb, rfl⟩⟩
    · exact ⟨true, fun w => by go_simp, fun w => by go_simp, fun w => by go_simp, fun w => by go_simp⟩
    · exact ⟨false, fun w => by go_simp, fun w => by go_simp, fun w => by go_simp, fun w => by go_simp⟩
  have zz : (bz != bz) = false := by simp
  clear HNIL
  go_wp2_with fail
  go_loopw [13] (fun i wr => ∃ k : Nat, k ≤ 60 ∧ i = .int .i64 (k : Int) ∧ ∃ (l : Nat → List S33), Aside0 (St w wr va vb m l l tp t (fun _ => False))) (fun i _ => 60 - (intOf i).toNat)
  case atStart => exact ⟨0, by omega, rfl, _, HS⟩
  case round =>
    clear HS
    obtain ⟨k, hk, rfl, l, HS⟩ := hrel
    by_cases hlt : k < 60
    · go_wp2_with fail
      refine HS.out.left.mono ?_
      rintro e w6 ⟨lb, rfl, h6⟩
      have H6 := Aside0.mk h6
      clear h6 HS
      cases lb with
      | false =>
        go_wp2_with fail
        refine (sane_calls _).mono ?_
        rintro e w7 ⟨rfl, b7⟩
        go_wp2_with fail
        go_ret
        exact ⟨rfl, below_then H6.out.below H6.out.below.size b7⟩
      | true =>
        go_wp2_with fail
        refine (H6.out.next 3 HT.out (by omega) (by omega)).mono ?_
        rintro e w7 ⟨job, rfl, _, _, h7, _⟩
        have H8 := Aside0.mk (h7.lay (.cells #[.int .i64 job, .int .i64 (k : Int)] 33))
        have O8 := Aside0.mk (blk_new w7 (.cells #[.int .i64 job, .int .i64 (k : Int)] 33))
        clear h7 H6
        go_wp2_with fail
        refine (H8.out.next 8 HT.out (by omega) (by omega)).mono ?_
        rintro e w9 ⟨s, rfl, s0, s1, h9, k9⟩
        have o9 := blk_kept O8.out k9 (fun hs => hs (.inr rfl))
        have x0 := (blk_cell o9 0).trans rfl
        have x1 := (blk_cell o9 1).trans rfl
        have O9 := Aside0.mk o9
        have H9 := Aside0.mk h9
        clear h9 o9 k9 H8 O8
        go_upto_block 2 with (fail)
        go_cut [] (fun wx => ∃ (l : Nat → List S33), Aside0 (St w wx va vb m l l tp t (fun _ => False)))
        case first =>
          have hpush : True := trivial
          rcases (by omega : s = 0 ∨ s = 1 ∨ s = 2 ∨ s = 3 ∨ s = 7 ∨ s = 4 ∨ s = 5 ∨ s = 6) with rfl | rfl | rfl | rfl | rfl | rfl | rfl | rfl
          · clear hpush
            go_wp2_with fail
            refine (H9.out.next 4 HT.out (by omega) (by omega)).mono ?_
            rintro e w10 ⟨r10, rfl, _, _, h10, k10⟩
            have o10 := blk_kept O9.out k10 (fun hs => hs (.inr rfl))
            have h11 := h10.lay (.cells #[.int .i64 r10, .int .i64 band, .int .i64 4, .int .i64 (-1), .int .i64 0] 3)
            have O10 := Aside0.mk (blk_alloc o10 (.cells #[.int .i64 r10, .int .i64 band, .int .i64 4, .int .i64 (-1), .int .i64 0] 3))
            have P10 := Aside0.mk (blk_new w10 (.cells #[.int .i64 r10, .int .i64 band, .int .i64 4, .int .i64 (-1), .int .i64 0] 3))
            have N10 : Aside0 (w10.heap.size ≠ tp) := ⟨by have := h10.tape.lt; omega⟩
            have H11 := Aside0.mk h11
            clear h10 h11 k10 o10 H9 O9 x0 x1
            go_wp2_with fail
            refine (H11.out.pick [r10, band, 4, -1, 0] HT.out (by simp) (by simp) P10.out N10.out).mono ?_
            rintro e w12 ⟨b0, rfl, _, h12, k12⟩
            have o12 := blk_kept O10.out k12 (fun hs => hs (.inl (.inr rfl)))
            have x0 := (blk_cell o12 0).trans rfl
            have x1 := (blk_cell o12 1).trans rfl
            have O9 := Aside0.mk o12
            have HD := Aside0.mk (h12.below' (below_drew (Below.refl _ _)))
            clear h12 k12 o12 H11 O10 P10 N10
            go_wp2_with fail
            go_region_held3 (fun w' => w'.cell? ⟨w7.heap.size, 0, none⟩ = some (.int .i64 job) ∧ w'.cell? ⟨w7.heap.size, 1, none⟩ = some (.int .i64 (k : Int)))
              (first | exact ⟨x0, x1⟩ | exact ⟨xa0, xa1⟩ | exact ⟨xb0, xb1⟩)
              (first
                | (go_at_call 10; refine (pushA ⟨job, (k : Int)⟩ b0 HD.out).mono ?_; rintro e wa ⟨rfl, ha, ka⟩; have oa := blk_kept (blk_drew O9.out) ka (fun hs => hs (.inl (.inr rfl))); have xa0 := (blk_cell oa 0).trans rfl; have xa1 := (blk_cell oa 1).trans rfl; have OA := Aside0.mk oa; have HA := Aside0.mk ha; clear oa ha ka)
                | (go_at_call 17; refine (pushB ⟨job, (k : Int)⟩ b0 HA.out).mono ?_; rintro e wb ⟨rfl, hb, kb⟩; have ob := blk_kept OA.out kb (fun hs => hs (.inl (.inr rfl))); have xb0 := (blk_cell ob 0).trans rfl; have xb1 := (blk_cell ob 1).trans rfl; have HBB := Aside0.mk hb; clear ob hb kb))
            have pp : (pushR m l b0 != pushR m l b0) = false := by simp
            go_wp2_with fail
            go_meet
            exact ⟨_, ⟨HBB.out.forget⟩⟩
          · clear hpush
            go_wp2_with fail
            refine (H9.out.next 4 HT.out (by omega) (by omega)).mono ?_
            rintro e w10 ⟨r10, rfl, _, _, h10, k10⟩
            have o10 := blk_kept O9.out k10 (fun hs => hs (.inr rfl))
            have h11 := h10.lay (.cells #[.int .i64 r10, .int .i64 band, .int .i64 4, .int .i64 (-1), .int .i64 0] 3)
            have O10 := Aside0.mk (blk_alloc o10 (.cells #[.int .i64 r10, .int .i64 band, .int .i64 4, .int .i64 (-1), .int .i64 0] 3))
            have P10 := Aside0.mk (blk_new w10 (.cells #[.int .i64 r10, .int .i64 band, .int .i64 4, .int .i64 (-1), .int .i64 0] 3))
            have N10 : Aside0 (w10.heap.size ≠ tp) := ⟨by have := h10.tape.lt; omega⟩
            have H11 := Aside0.mk h11
            clear h10 h11 k10 o10 H9 O9 x0 x1
            go_wp2_with fail
            refine (H11.out.pick [r10, band, 4, -1, 0] HT.out (by simp) (by simp) P10.out N10.out).mono ?_
            rintro e w12 ⟨b0, rfl, _, h12, k12⟩
            have o12 := blk_kept O10.out k12 (fun hs => hs (.inl (.inr rfl)))
            have x0 := (blk_cell o12 0).trans rfl
            have x1 := (blk_cell o12 1).trans rfl
            have O9 := Aside0.mk o12
            have HD := Aside0.mk (h12.below' (below_drew (Below.refl _ _)))
            clear h12 k12 o12 H11 O10 P10 N10
            go_wp2_with fail
            go_region_held3 (fun w' => w'.cell? ⟨w7.heap.size, 0, none⟩ = some (.int .i64 job) ∧ w'.cell? ⟨w7.heap.size, 1, none⟩ = some (.int .i64 (k : Int)))
              (first | exact ⟨x0, x1⟩ | exact ⟨xa0, xa1⟩ | exact ⟨xb0, xb1⟩)
              (first
                | (go_at_call 10; refine (pushA ⟨job, (k : Int)⟩ b0 HD.out).mono ?_; rintro e wa ⟨rfl, ha, ka⟩; have oa := blk_kept (blk_drew O9.out) ka (fun hs => hs (.inl (.inr rfl))); have xa0 := (blk_cell oa 0).trans rfl; have xa1 := (blk_cell oa 1).trans rfl; have OA := Aside0.mk oa; have HA := Aside0.mk ha; clear oa ha ka)
                | (go_at_call 17; refine (pushB ⟨job, (k : Int)⟩ b0 HA.out).mono ?_; rintro e wb ⟨rfl, hb, kb⟩; have ob := blk_kept OA.out kb (fun hs => hs (.inl (.inr rfl))); have xb0 := (blk_cell ob 0).trans rfl; have xb1 := (blk_cell ob 1).trans rfl; have HBB := Aside0.mk hb; clear ob hb kb))
            have pp : (pushR m l b0 != pushR m l b0) = false := by simp
            go_wp2_with fail
            go_meet
            exact ⟨_, ⟨HBB.out.forget⟩⟩
          · clear hpush
            go_wp2_with fail
            refine (H9.out.next 4 HT.out (by omega) (by omega)).mono ?_
            rintro e w10 ⟨r10, rfl, _, _, h10, k10⟩
            have o10 := blk_kept O9.out k10 (fun hs => hs (.inr rfl))
            have h11 := h10.lay (.cells #[.int .i64 r10, .int .i64 band, .int .i64 4, .int .i64 (-1), .int .i64 0] 3)
            have O10 := Aside0.mk (blk_alloc o10 (.cells #[.int .i64 r10, .int .i64 band, .int .i64 4, .int .i64 (-1), .int .i64 0] 3))
            have P10 := Aside0.mk (blk_new w10 (.cells #[.int .i64 r10, .int .i64 band, .int .i64 4, .int .i64 (-1), .int .i64 0] 3))
            have N10 : Aside0 (w10.heap.size ≠ tp) := ⟨by have := h10.tape.lt; omega⟩
            have H11 := Aside0.mk h11
            clear h10 h11 k10 o10 H9 O9 x0 x1
            go_wp2_with fail
            refine (H11.out.pick [r10, band, 4, -1, 0] HT.out (by simp) (by simp) P10.out N10.out).mono ?_
            rintro e w12 ⟨b0, rfl, _, h12, k12⟩
            have o12 := blk_kept O10.out k12 (fun hs => hs (.inl (.inr rfl)))
            have x0 := (blk_cell o12 0).trans rfl
            have x1 := (blk_cell o12 1).trans rfl
            have O9 := Aside0.mk o12
            have HD := Aside0.mk (h12.below' (below_drew (Below.refl _ _)))
            clear h12 k12 o12 H11 O10 P10 N10
            go_wp2_with fail
            go_region_held3 (fun w' => w'.cell? ⟨w7.heap.size, 0, none⟩ = some (.int .i64 job) ∧ w'.cell? ⟨w7.heap.size, 1, none⟩ = some (.int .i64 (k : Int)))
              (first | exact ⟨x0, x1⟩ | exact ⟨xa0, xa1⟩ | exact ⟨xb0, xb1⟩)
              (first
                | (go_at_call 10; refine (pushA ⟨job, (k : Int)⟩ b0 HD.out).mono ?_; rintro e wa ⟨rfl, ha, ka⟩; have oa := blk_kept (blk_drew O9.out) ka (fun hs => hs (.inl (.inr rfl))); have xa0 := (blk_cell oa 0).trans rfl; have xa1 := (blk_cell oa 1).trans rfl; have OA := Aside0.mk oa; have HA := Aside0.mk ha; clear oa ha ka)
                | (go_at_call 17; refine (pushB ⟨job, (k : Int)⟩ b0 HA.out).mono ?_; rintro e wb ⟨rfl, hb, kb⟩; have ob := blk_kept OA.out kb (fun hs => hs (.inl (.inr rfl))); have xb0 := (blk_cell ob 0).trans rfl; have xb1 := (blk_cell ob 1).trans rfl; have HBB := Aside0.mk hb; clear ob hb kb))
            have pp : (pushR m l b0 != pushR m l b0) = false := by simp
            go_wp2_with fail
            go_meet
            exact ⟨_, ⟨HBB.out.forget⟩⟩
          · clear hpush
            go_wp2_with fail
            refine (H9.out.next 4 HT.out (by omega) (by omega)).mono ?_
            rintro e w10 ⟨r10, rfl, _, _, h10, k10⟩
            have o10 := blk_kept O9.out k10 (fun hs => hs (.inr rfl))
            have h11 := h10.lay (.cells #[.int .i64 r10, .int .i64 band, .int .i64 4, .int .i64 (-1), .int .i64 0] 3)
            have O10 := Aside0.mk (blk_alloc o10 (.cells #[.int .i64 r10, .int .i64 band, .int .i64 4, .int .i64 (-1), .int .i64 0] 3))
            have P10 := Aside0.mk (blk_new w10 (.cells #[.int .i64 r10, .int .i64 band, .int .i64 4, .int .i64 (-1), .int .i64 0] 3))
            have N10 : Aside0 (w10.heap.size ≠ tp) := ⟨by have := h10.tape.lt; omega⟩
            have H11 := Aside0.mk h11
            clear h10 h11 k10 o10 H9 O9 x0 x1
            go_wp2_with fail
            refine (H11.out.pick [r10, band, 4, -1, 0] HT.out (by simp) (by simp) P10.out N10.out).mono ?_
            rintro e w12 ⟨b0, rfl, _, h12, k12⟩
            have o12 := blk_kept O10.out k12 (fun hs => hs (.inl (.inr rfl)))
            have x0 := (blk_cell o12 0).trans rfl
            have x1 := (blk_cell o12 1).trans rfl
            have O9 := Aside0.mk o12
            have HD := Aside0.mk (h12.below' (below_drew (Below.refl _ _)))
            clear h12 k12 o12 H11 O10 P10 N10
            go_wp2_with fail
            go_region_held3 (fun w' => w'.cell? ⟨w7.heap.size, 0, none⟩ = some (.int .i64 job) ∧ w'.cell? ⟨w7.heap.size, 1, none⟩ = some (.int .i64 (k : Int)))
              (first | exact ⟨x0, x1⟩ | exact ⟨xa0, xa1⟩ | exact ⟨xb0, xb1⟩)
              (first
                | (go_at_call 10; refine (pushA ⟨job, (k : Int)⟩ b0 HD.out).mono ?_; rintro e wa ⟨rfl, ha, ka⟩; have oa := blk_kept (blk_drew O9.out) ka (fun hs => hs (.inl (.inr rfl))); have xa0 := (blk_cell oa 0).trans rfl; have xa1 := (blk_cell oa 1).trans rfl; have OA := Aside0.mk oa; have HA := Aside0.mk ha; clear oa ha ka)
                | (go_at_call 17; refine (pushB ⟨job, (k : Int)⟩ b0 HA.out).mono ?_; rintro e wb ⟨rfl, hb, kb⟩; have ob := blk_kept OA.out kb (fun hs => hs (.inl (.inr rfl))); have xb0 := (blk_cell ob 0).trans rfl; have xb1 := (blk_cell ob 1).trans rfl; have HBB := Aside0.mk hb; clear ob hb kb))
            have pp : (pushR m l b0 != pushR m l b0) = false := by simp
            go_wp2_with fail
            go_meet
            exact ⟨_, ⟨HBB.out.forget⟩⟩
          · have HD := Aside0.mk (H9.out.below' (below_drew (Below.refl _ _)))
            go_wp2_with fail
            go_region_held3 (fun w' => w'.cell? ⟨w7.heap.size, 0, none⟩ = some (.int .i64 job) ∧ w'.cell? ⟨w7.heap.size, 1, none⟩ = some (.int .i64 (k : Int)))
              (first | exact ⟨x0, x1⟩ | exact ⟨xa0, xa1⟩ | exact ⟨xb0, xb1⟩)
              (first
                | (go_at_call 18; refine (removeA job HD.out).mono ?_; rintro e wa ⟨rfl, ha, ka⟩; have oa := blk_kept (blk_drew O9.out) ka (fun hs => hs (.inr rfl)); have xa0 := (blk_cell oa 0).trans rfl; have xa1 := (blk_cell oa 1).trans rfl; have OA := Aside0.mk oa; have HA := Aside0.mk ha; clear oa ha ka)
                | (go_at_call 19; refine (removeB job HA.out).mono ?_; rintro e wb ⟨rfl, hb, kb⟩; have ob := blk_kept OA.out kb (fun hs => hs (.inr rfl)); have xb0 := (blk_cell ob 0).trans rfl; have xb1 := (blk_cell ob 1).trans rfl; have HBB := Aside0.mk hb; clear ob hb kb))
            have pp : (((tot l : Int) - (tot (keepL job l) : Int)) != ((tot l : Int) - (tot (keepL job l) : Int))) = false := by simp
            go_wp2_with fail
            go_meet
            exact ⟨_, ⟨HBB.out.forget⟩⟩
          · go_wp2_with fail
            refine (popA H9.out).mono ?_
            rintro e wa ⟨rfl, ha, _⟩
            have HL := Aside0.mk (ha.lay (.cells #[.int .i64 (popR l).1.f0, .int .i64 (popR l).1.f1] 33))
            have OL := Aside0.mk (blk_new wa (.cells #[.int .i64 (popR l).1.f0, .int .i64 (popR l).1.f1] 33))
            clear ha H9 O9 x0 x1
            go_wp2_with fail
            refine (popB HL.out).mono ?_
            rintro e wb ⟨rfl, hb, kb⟩
            have ob := blk_kept OL.out kb (fun hs => hs (.inr rfl))
            have HBB := Aside0.mk (hb.below' (below_alloc (Below.refl _ _) (.cells #[.int .i64 (popR l).1.f0, .int .i64 (popR l).1.f1] 33)))
            have ob2 := blk_alloc ob (.cells #[.int .i64 (popR l).1.f0, .int .i64 (popR l).1.f1] 33)
            have y0 := (blk_cell ob2 0).trans rfl
            have y1 := (blk_cell ob2 1).trans rfl
            have hlt9 := blk_lt ob
            have pp : ((popR l).2.1 != (popR l).2.1) = false := by simp
            clear ob ob2 hb kb HL OL
            go_wp2_with fail
            go_meet
            exact ⟨_, ⟨HBB.out.forget⟩⟩
          · go_wp2_with fail
            refine (popA H9.out).mono ?_
            rintro e wa ⟨rfl, ha, _⟩
            have HL := Aside0.mk (ha.lay (.cells #[.int .i64 (popR l).1.f0, .int .i64 (popR l).1.f1] 33))
            have OL := Aside0.mk (blk_new wa (.cells #[.int .i64 (popR l).1.f0, .int .i64 (popR l).1.f1] 33))
            clear ha H9 O9 x0 x1
            go_wp2_with fail
            refine (popB HL.out).mono ?_
            rintro e wb ⟨rfl, hb, kb⟩
            have ob := blk_kept OL.out kb (fun hs => hs (.inr rfl))
            have HBB := Aside0.mk (hb.below' (below_alloc (Below.refl _ _) (.cells #[.int .i64 (popR l).1.f0, .int .i64 (popR l).1.f1] 33)))
            have ob2 := blk_alloc ob (.cells #[.int .i64 (popR l).1.f0, .int .i64 (popR l).1.f1] 33)
            have y0 := (blk_cell ob2 0).trans rfl
            have y1 := (blk_cell ob2 1).trans rfl
            have hlt9 := blk_lt ob
            have pp : ((popR l).2.1 != (popR l).2.1) = false := by simp
            clear ob ob2 hb kb HL OL
            go_wp2_with fail
            go_meet
            exact ⟨_, ⟨HBB.out.forget⟩⟩
          · go_wp2_with fail
            refine (popA H9.out).mono ?_
            rintro e wa ⟨rfl, ha, _⟩
            have HL := Aside0.mk (ha.lay (.cells #[.int .i64 (popR l).1.f0, .int .i64 (popR l).1.f1] 33))
            have OL := Aside0.mk (blk_new wa (.cells #[.int .i64 (popR l).1.f0, .int .i64 (popR l).1.f1] 33))
            clear ha H9 O9 x0 x1
            go_wp2_with fail
            refine (popB HL.out).mono ?_
            rintro e wb ⟨rfl, hb, kb⟩
            have ob := blk_kept OL.out kb (fun hs => hs (.inr rfl))
            have HBB := Aside0.mk (hb.below' (below_alloc (Below.refl _ _) (.cells #[.int .i64 (popR l).1.f0, .int .i64 (popR l).1.f1] 33)))
            have ob2 := blk_alloc ob (.cells #[.int .i64 (popR l).1.f0, .int .i64 (popR l).1.f1] 33)
            have y0 := (blk_cell ob2 0).trans rfl
            have y1 := (blk_cell ob2 1).trans rfl
            have hlt9 := blk_lt ob
            have pp : ((popR l).2.1 != (popR l).2.1) = false := by simp
            clear ob ob2 hb kb HL OL
            go_wp2_with fail
            go_meet
            exact ⟨_, ⟨HBB.out.forget⟩⟩
        case rest =>
          obtain ⟨l, HC⟩ := hcut
          clear H9 O9 x0 x1
          go_wp2_with fail
          go_loopw [20] (fun v20 wr => ∃ j : Nat, j ≤ 6 ∧ v20 = .int .i64 ((j : Int) - 1) ∧ Aside0 (St w wr va vb m l l tp t (fun _ => False))) (fun i _ => (5 - intOf i).toNat)
          case atStart => exact ⟨0, by omega, rfl, HC⟩
          case round =>
            clear HC
            obtain ⟨j, hj, rfl, HC⟩ := hrel
            by_cases hj6 : j < 6
            · have j0 : decide ((j : Int) - 1 ≤ 4) = true := decide_eq_true (by omega)
              have hl := list_len l ((j : Int) - 1) HC.out.tot_le
              go_wp2_with fail
              refine (listA _ HC.out).mono ?_
              rintro e wa ⟨v1, rfl, r1, ba⟩
              have R1 := Aside0.mk r1
              have HA := Aside0.mk (HC.out.below' ba)
              clear r1 ba
              go_wp2_with fail
              refine (listB _ HA.out).mono ?_
              rintro e wb ⟨v2, rfl, r2, bb⟩
              have R1' := Aside0.mk (Kd.R_below R1.out bb)
              have R2 := Aside0.mk r2
              have HBB := Aside0.mk (HA.out.below' bb)
              clear r2 bb R1 HA HC
              go_wp2_with fail
              refine (same_calls R1'.out R2.out (by omega)).mono ?_
              rintro e wd ⟨rfl, hd⟩
              have HDD := Aside0.mk (HBB.out.below' hd.below)
              clear hd HBB R1' R2
              go_wp2_with fail
              go_roundw
              case rel => exact ⟨j + 1, by omega, by go_num, HDD⟩
              case measure => simp [intOf]; omega
            · obtain rfl : j = 6 := by omega
              have hl := list_len l band HC.out.tot_le
              go_wp2_with fail
              refine (lenA HC.out).mono ?_
              rintro e w' ⟨rfl, rfl⟩
              go_wp2_with fail
              refine (lenB HC.out).mono ?_
              rintro e w' ⟨rfl, rfl⟩
              have ll : ((tot l : Int) != (tot l : Int)) = false := by simp
              have l2 : (((listL l band).length : Int) != ((listL l band).length : Int)) = false := by simp
              go_wp2_with fail
              refine (listA band HC.out).mono ?_
              rintro e wa ⟨v1, rfl, r1, ba⟩
              obtain ⟨A1, n1, rfl⟩ := Kd.R_slice r1
              have HA := Aside0.mk (HC.out.below' ba)
              clear r1 ba HC
              go_wp2_with fail
              refine (listB band HA.out).mono ?_
              rintro e wb ⟨v2, rfl, r2, bb⟩
              obtain ⟨A2, n2, rfl⟩ := Kd.R_slice r2
              have HBB := Aside0.mk (HA.out.below' bb)
              clear r2 bb HA
              go_wp2_with fail
              go_roundw
              case rel => exact ⟨k + 1, by omega, by go_num, l, HBB⟩
              case measure => simp [intOf]; omega
    · obtain rfl : k = 60 := by omega
      go_wp2_with fail
      refine (sane_calls _).mono ?_
      rintro e w7 ⟨rfl, b7⟩
      go_wp2_with fail
      go_ret
      exact ⟨rfl, below_then HS.out.below HS.out.below.size b7⟩

theorem law (a0 : Option Addr) (len0 cap0 : Nat) (z0 : List Int) (a1 a2 : Int) (w : World)
    (w0 : (a0 = none ∧ len0 = 0 ∧ cap0 = 0 ∧ z0 = []) ∨ ∃ x, a0 = some x ∧ len0 ≤ cap0 ∧ cap0 ≤ maxLen ∧ z0.length = cap0 ∧ (∀ i, i < z0.length → w.cell? (x.add i) = some (.int .i64 (z0.getD i 0))) ∧ ∀ n ∈ z0, (Lit.int .i64 n).wf = true) :
    Calls Try.prog 4 #[.slice a0 len0 cap0, .int .i64 a1, .int .i64 a2] w fun e w' => e = .returned (.bool true) ∧ Below w.heap.size w w' := by
  obtain ⟨l0, rfl, hr0, hm0, _, hc0⟩ := ReadsInt.ofRowC w0
  exact walk a0 cap0 l0 a1 a2 w (Kd.C_of_reads (d := (0 : Int)) (h1 := fun _ => rfl) hr0) hc0 (by unfold maxLen at hm0; omega)

end Go.Proofs.Ytfneiocgjoalkaa.Follows
