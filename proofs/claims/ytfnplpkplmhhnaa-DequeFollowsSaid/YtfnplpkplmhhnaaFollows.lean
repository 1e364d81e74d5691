/- 'DequeFollows' returns true for all inputs: the program's deque answers as the reference's does, call by call. No conditions. This text: the walk of the law. -/
import Derived.Test.YtfnplpkplmhhnaaAll
namespace Go.Proofs.Ytfnplpkplmhhnaa.Follows
open Go.RowKit Go.Proofs.YtfnplpkplmhhnaaW.PrintWords Go.Proofs.YtfnplpkplmhhnaaW.PrintLast Go.Proofs.YtfnplpkplmhhnaaW.PrintMore
open Go.Proofs.Ytfnplpkplmhhnaa.PDequeFollows
open Go.Proofs.Ytfnplpkplmhhnaa.Dq (refV keep keep_length)
open Go.Proofs.Ytfnplpkplmhhnaa.Tp Go.Proofs.Ytfnplpkplmhhnaa.Both Go.Proofs.Ytfnplpkplmhhnaa.All
set_option linter.unusedVariables false
attribute [local go_sem high] eqA32

set_option maxHeartbeats 4000000 in
set_option maxRecDepth 100000 in
theorem walk (A : Option Addr) (cc : Nat) (t : List Int) (n : Int) (w : World) (hC : Kd.C (Kd.int .i64) w A t.length t) (hcc : t.length ≤ cc) (ht : t.length ≤ 9223372036854775807) :
    Calls Try.prog 4 #[.slice A t.length cc, .int .i64 n] w fun e w' => e = .returned (.bool true) ∧ Below w.heap.size w w' := by
  have HT := Aside0.mk ht
  obtain ⟨m1, hm1, _, _⟩ := mod_is n 6 (by omega) (by omega)
  have HM1 := Aside0.mk hm1
  obtain ⟨m2, hm2, _, _⟩ := mod_is n 258 (by omega) (by omega)
  have HM2 := Aside0.mk hm2
  clear hm1 hm2
  have HCC := Aside0.mk hC
  clear hC
  go_enter Try.func4, Try.ntmps4
  go_wp2_with fail
  refine (tape_new HCC.out hcc).mono ?_
  rintro e w1 ⟨tp, rfl, t1, b1⟩
  have T1 := Aside0.mk t1
  have B1 := Aside0.mk b1
  clear t1 b1
  go_wp2_with fail
  refine (tilefarmgen_Mod.calls n 6 m1 _ HM1.out).mono ?_
  rintro e w2 ⟨rfl, ⟨n1, rfl⟩⟩
  go_wp2_with fail
  refine (tilefarmgen_Mod.calls n 258 m2 _ HM2.out).mono ?_
  rintro e w2 ⟨rfl, ⟨n2, rfl⟩⟩
  go_wp2_with fail
  have T2 : Aside0 (OnTape w ((w1.drewN (n1 + n2)).alloc (.cells #[.int .i64 n, .int .i64 m1, .int .i64 m2] 3)) tp t) := ⟨T1.out.kept (((Kept.refl w1 (fun _ => False)).drewN _).alloc _) id⟩
  have B2 : Aside0 (Below w.heap.size w ((w1.drewN (n1 + n2)).alloc (.cells #[.int .i64 n, .int .i64 m1, .int .i64 m2] 3))) := ⟨below_alloc (pw_below_drewN B1.out _) _⟩
  have o2 : Aside0 (((w1.drewN (n1 + n2)).alloc (.cells #[.int .i64 n, .int .i64 m1, .int .i64 m2] 3)).heap[w1.heap.size]? = some (.cells #[.int .i64 n, .int .i64 m1, .int .i64 m2] 3 (0, 0))) := ⟨blk_new (w1.drewN (n1 + n2)) _⟩
  have n3 : Aside0 (w1.heap.size ≠ tp) := ⟨by have := T1.out.lt; omega⟩
  refine (next_calls 3 T2.out B2.out HT.out (by omega) (by omega)).mono ?_
  rintro e w3 ⟨r, rfl, r0, r1, t3, b3, k3⟩
  have o3 := blk_kept o2.out k3 n3.out
  obtain ⟨r, rfl⟩ := Int.eq_ofNat_of_zero_le r0
  obtain ⟨c, hc⟩ : ∃ c, w3.cell? ⟨w1.heap.size, r, none⟩ = some (.int .i64 c) := by
    rw [blk_cell o3]
    match r, r1 with
    | 0, _ => exact ⟨_, rfl⟩
    | 1, _ => exact ⟨_, rfl⟩
    | 2, _ => exact ⟨_, rfl⟩
    | q + 3, h => omega
  have T3 := Aside0.mk t3
  have B3 := Aside0.mk b3
  clear t3 b3 k3 o3 o2 T2 B2 T1 B1 HM1 HM2 n3
  go_wp2_with fail
  obtain ⟨m, q, _, hnew⟩ := news c T3.out B3.out
  refine hnew.mono ?_
  clear hnew
  rintro e w4 ⟨va, rfl, hnew⟩
  have HN := Aside0.mk hnew
  clear hnew
  go_wp2_with fail
  refine HN.out.mono ?_
  rintro e w5 ⟨vb, rfl, hnil, B, hst⟩
  have HS := Aside0.mk hst
  have HNIL := Aside0.mk hnil
  clear hst hnil HN T3 B3
  have qq : (q != q) = false := by simp
  obtain ⟨bz, g1, g2, e1, e2⟩ : ∃ bz : Bool, (∀ w, Sem.run Try.prog (eqGuard BinOp.eql 26 (Operand.tmp 47) (Operand.const (Value.pointer none)) va (Value.pointer none)) w = .ok () w) ∧
      (∀ w, Sem.run Try.prog (eqGuard BinOp.eql 39 (Operand.tmp 49) (Operand.const (Value.pointer none)) vb (Value.pointer none)) w = .ok () w) ∧
      (∀ w, Sem.run Try.prog (binOp BinOp.eql 26 va (Value.pointer none)) w = .ok (.bool bz) w) ∧ (∀ w, Sem.run Try.prog (binOp BinOp.eql 39 vb (Value.pointer none)) w = .ok (.bool bz) w) := by
    rcases HNIL.out with ⟨rfl, rfl⟩ | ⟨⟨pa, rfl⟩, ⟨pb, rfl⟩⟩
    · exact ⟨true, fun w => by go_simp, fun w => by go_simp, fun w => by go_simp, fun w => by go_simp⟩
    · exact ⟨false, fun w => by go_simp, fun w => by go_simp, fun w => by go_simp, fun w => by go_simp⟩
  have zz : (bz != bz) = false := by simp
  clear HNIL
  go_wp2_with fail
  go_loopw [11] (fun i wr => ∃ k : Nat, k ≤ 60 ∧ i = .int .i64 (k : Int) ∧ ∃ (l : List S32) (X : Nat → Prop), Aside0 (St w wr va vb m l l B tp t X)) (fun i _ => 60 - (intOf i).toNat)
  case atStart => exact ⟨0, by omega, rfl, [], _, HS⟩
  case round =>
    clear HS
    obtain ⟨k, hk, rfl, l, X, HS⟩ := hrel
    by_cases hlt : k < 60
    · go_wp2_with fail
      refine (left_st HS.out).mono ?_
      rintro e w6 ⟨lb, rfl, h6, _⟩
      have H6 := Aside0.mk h6
      clear h6 HS
      cases lb with
      | false =>
        go_wp2_with fail
        refine (sane_calls _).mono ?_
        rintro e w7 ⟨rfl, b7⟩
        go_wp2_with fail
        go_ret
        exact ⟨rfl, below_then H6.out.below H6.out.below.size b7⟩
      | true =>
        go_wp2_with fail
        refine (next_st 3 H6.out HT.out (by omega) (by omega)).mono ?_
        rintro e w7 ⟨job, rfl, _, _, h7, _⟩
        have H7 := Aside0.mk h7
        clear h7 H6
        go_wp2_with fail
        have h8 := H7.out.lay (.cells #[.int .i64 job, .int .i64 (k : Int)] 32)
        have o8 : (w7.alloc (.cells #[.int .i64 job, .int .i64 (k : Int)] 32)).heap[w7.heap.size]? = some (.cells #[.int .i64 job, .int .i64 (k : Int)] 32 (0, 0)) := blk_new _ _
        have n8 : Aside0 (B ≤ w7.heap.size ∧ tp < B ∧ w7.heap.size ≠ tp) := ⟨H7.out.size, H7.out.tpB, by have := H7.out.tpB; have := H7.out.size; omega⟩
        have H8 := Aside0.mk h8
        have O8 := Aside0.mk o8
        clear h8 o8 H7
        refine (next_st 9 H8.out HT.out (by omega) (by omega)).mono ?_
        rintro e w9 ⟨s, rfl, s0, s1, h9, k9⟩
        have o9 := blk_kept O8.out k9 n8.out.2.2
        have x0 := (blk_cell o9 0).trans rfl
        have x1 := (blk_cell o9 1).trans rfl
        have O9 := Aside0.mk o9
        have H9 := Aside0.mk h9
        clear h9 o9 k9 H8 O8
        go_upto_block 2 with (fail)
        go_cut [] (fun wx => ∃ (l : List S32) (X : Nat → Prop), Aside0 (St w wx va vb m l l B tp t X))
        case first =>
          rcases (by omega : s = 0 ∨ s = 1 ∨ s = 2 ∨ s = 3 ∨ s = 4 ∨ s = 5 ∨ s = 6 ∨ s = 7 ∨ s = 8) with rfl | rfl | rfl | rfl | rfl | rfl | rfl | rfl | rfl
          · go_wp2_with fail
            have hd := H9.out.below' (below_drew (Below.refl _ _))
            have HD := Aside0.mk hd
            clear hd
            go_region_held3 (fun w' => w'.cell? ⟨w7.heap.size, 0, none⟩ = some (.int .i64 job) ∧ w'.cell? ⟨w7.heap.size, 1, none⟩ = some (.int .i64 (k : Int)))
              (first | exact ⟨x0, x1⟩ | exact ⟨xa0, xa1⟩ | exact ⟨xb0, xb1⟩)
              (first
                | (go_at_call 9; refine (pushA ⟨job, (k : Int)⟩ HD.out).mono ?_; rintro e wa ⟨rfl, ha, ka⟩; have oa := blk_kept (blk_drew O9.out) ka (fun hs => by have := hs.1; have := n8.out; omega); have xa0 := (blk_cell oa 0).trans rfl; have xa1 := (blk_cell oa 1).trans rfl; have OA := Aside0.mk oa; have HA := Aside0.mk ha; clear oa ha ka)
                | (go_at_call 17; refine (pushB ⟨job, (k : Int)⟩ HA.out).mono ?_; rintro e wb ⟨rfl, hb, kb⟩; have ob := blk_kept OA.out kb (fun hs => hs.2 (.inr rfl)); have xb0 := (blk_cell ob 0).trans rfl; have xb1 := (blk_cell ob 1).trans rfl; have HBB := Aside0.mk hb; clear ob hb kb))
            have pp : (pushR m l != pushR m l) = false := by simp
            go_wp2_with fail
            go_meet
            exact ⟨_, _, HBB⟩
          · go_wp2_with fail
            have hd := H9.out.below' (below_drew (Below.refl _ _))
            have HD := Aside0.mk hd
            clear hd
            go_region_held3 (fun w' => w'.cell? ⟨w7.heap.size, 0, none⟩ = some (.int .i64 job) ∧ w'.cell? ⟨w7.heap.size, 1, none⟩ = some (.int .i64 (k : Int)))
              (first | exact ⟨x0, x1⟩ | exact ⟨xa0, xa1⟩ | exact ⟨xb0, xb1⟩)
              (first
                | (go_at_call 9; refine (pushA ⟨job, (k : Int)⟩ HD.out).mono ?_; rintro e wa ⟨rfl, ha, ka⟩; have oa := blk_kept (blk_drew O9.out) ka (fun hs => by have := hs.1; have := n8.out; omega); have xa0 := (blk_cell oa 0).trans rfl; have xa1 := (blk_cell oa 1).trans rfl; have OA := Aside0.mk oa; have HA := Aside0.mk ha; clear oa ha ka)
                | (go_at_call 17; refine (pushB ⟨job, (k : Int)⟩ HA.out).mono ?_; rintro e wb ⟨rfl, hb, kb⟩; have ob := blk_kept OA.out kb (fun hs => hs.2 (.inr rfl)); have xb0 := (blk_cell ob 0).trans rfl; have xb1 := (blk_cell ob 1).trans rfl; have HBB := Aside0.mk hb; clear ob hb kb))
            have pp : (pushR m l != pushR m l) = false := by simp
            go_wp2_with fail
            go_meet
            exact ⟨_, _, HBB⟩
          · go_wp2_with fail
            have hd := H9.out.below' (below_drew (Below.refl _ _))
            have HD := Aside0.mk hd
            clear hd
            go_region_held3 (fun w' => w'.cell? ⟨w7.heap.size, 0, none⟩ = some (.int .i64 job) ∧ w'.cell? ⟨w7.heap.size, 1, none⟩ = some (.int .i64 (k : Int)))
              (first | exact ⟨x0, x1⟩ | exact ⟨xa0, xa1⟩ | exact ⟨xb0, xb1⟩)
              (first
                | (go_at_call 9; refine (pushA ⟨job, (k : Int)⟩ HD.out).mono ?_; rintro e wa ⟨rfl, ha, ka⟩; have oa := blk_kept (blk_drew O9.out) ka (fun hs => by have := hs.1; have := n8.out; omega); have xa0 := (blk_cell oa 0).trans rfl; have xa1 := (blk_cell oa 1).trans rfl; have OA := Aside0.mk oa; have HA := Aside0.mk ha; clear oa ha ka)
                | (go_at_call 17; refine (pushB ⟨job, (k : Int)⟩ HA.out).mono ?_; rintro e wb ⟨rfl, hb, kb⟩; have ob := blk_kept OA.out kb (fun hs => hs.2 (.inr rfl)); have xb0 := (blk_cell ob 0).trans rfl; have xb1 := (blk_cell ob 1).trans rfl; have HBB := Aside0.mk hb; clear ob hb kb))
            have pp : (pushR m l != pushR m l) = false := by simp
            go_wp2_with fail
            go_meet
            exact ⟨_, _, HBB⟩
          · go_wp2_with fail
            have hd := H9.out.below' (below_drew (Below.refl _ _))
            have HD := Aside0.mk hd
            clear hd
            go_region_held3 (fun w' => w'.cell? ⟨w7.heap.size, 0, none⟩ = some (.int .i64 job) ∧ w'.cell? ⟨w7.heap.size, 1, none⟩ = some (.int .i64 (k : Int)))
              (first | exact ⟨x0, x1⟩ | exact ⟨xa0, xa1⟩ | exact ⟨xb0, xb1⟩)
              (first
                | (go_at_call 9; refine (pushA ⟨job, (k : Int)⟩ HD.out).mono ?_; rintro e wa ⟨rfl, ha, ka⟩; have oa := blk_kept (blk_drew O9.out) ka (fun hs => by have := hs.1; have := n8.out; omega); have xa0 := (blk_cell oa 0).trans rfl; have xa1 := (blk_cell oa 1).trans rfl; have OA := Aside0.mk oa; have HA := Aside0.mk ha; clear oa ha ka)
                | (go_at_call 17; refine (pushB ⟨job, (k : Int)⟩ HA.out).mono ?_; rintro e wb ⟨rfl, hb, kb⟩; have ob := blk_kept OA.out kb (fun hs => hs.2 (.inr rfl)); have xb0 := (blk_cell ob 0).trans rfl; have xb1 := (blk_cell ob 1).trans rfl; have HBB := Aside0.mk hb; clear ob hb kb))
            have pp : (pushR m l != pushR m l) = false := by simp
            go_wp2_with fail
            go_meet
            exact ⟨_, _, HBB⟩
          · go_wp2_with fail
            refine (popA H9.out).mono ?_
            rintro e wa ⟨rfl, ha, ka⟩
            have HL := Aside0.mk (ha.lay (.cells #[.int .i64 (popX l).f0, .int .i64 (popX l).f1] 32))
            have OL : Aside0 ((wa.alloc (.cells #[.int .i64 (popX l).f0, .int .i64 (popX l).f1] 32)).heap[wa.heap.size]? = some (.cells #[.int .i64 (popX l).f0, .int .i64 (popX l).f1] 32 (0, 0))) := ⟨blk_new _ _⟩
            clear ha ka H9 O9
            go_wp2_with fail
            refine (popB HL.out).mono ?_
            rintro e wb ⟨rfl, hb, kb⟩
            have ob := blk_kept OL.out kb (fun hs => hs.2 (.inr rfl))
            have HBB := Aside0.mk (hb.alloc (.cells #[.int .i64 (popX l).f0, .int .i64 (popX l).f1] 32))
            have ob2 := blk_alloc ob (.cells #[.int .i64 (popX l).f0, .int .i64 (popX l).f1] 32)
            have y0 := (blk_cell ob2 0).trans rfl
            have y1 := (blk_cell ob2 1).trans rfl
            have hlt9 := blk_lt ob
            clear ob ob2 hb kb HL OL
            go_wp2_with fail
            go_meet
            exact ⟨_, _, HBB⟩
          · go_wp2_with fail
            refine (popA H9.out).mono ?_
            rintro e wa ⟨rfl, ha, ka⟩
            have HL := Aside0.mk (ha.lay (.cells #[.int .i64 (popX l).f0, .int .i64 (popX l).f1] 32))
            have OL : Aside0 ((wa.alloc (.cells #[.int .i64 (popX l).f0, .int .i64 (popX l).f1] 32)).heap[wa.heap.size]? = some (.cells #[.int .i64 (popX l).f0, .int .i64 (popX l).f1] 32 (0, 0))) := ⟨blk_new _ _⟩
            clear ha ka H9 O9
            go_wp2_with fail
            refine (popB HL.out).mono ?_
            rintro e wb ⟨rfl, hb, kb⟩
            have ob := blk_kept OL.out kb (fun hs => hs.2 (.inr rfl))
            have HBB := Aside0.mk (hb.alloc (.cells #[.int .i64 (popX l).f0, .int .i64 (popX l).f1] 32))
            have ob2 := blk_alloc ob (.cells #[.int .i64 (popX l).f0, .int .i64 (popX l).f1] 32)
            have y0 := (blk_cell ob2 0).trans rfl
            have y1 := (blk_cell ob2 1).trans rfl
            have hlt9 := blk_lt ob
            clear ob ob2 hb kb HL OL
            go_wp2_with fail
            go_meet
            exact ⟨_, _, HBB⟩
          · go_wp2_with fail
            refine (stealA H9.out).mono ?_
            rintro e wa ⟨rfl, ha, ka⟩
            have HL := Aside0.mk (ha.lay (.cells #[.int .i64 (topX l).f0, .int .i64 (topX l).f1] 32))
            have OL : Aside0 ((wa.alloc (.cells #[.int .i64 (topX l).f0, .int .i64 (topX l).f1] 32)).heap[wa.heap.size]? = some (.cells #[.int .i64 (topX l).f0, .int .i64 (topX l).f1] 32 (0, 0))) := ⟨blk_new _ _⟩
            clear ha ka H9 O9
            go_wp2_with fail
            refine (stealB HL.out).mono ?_
            rintro e wb ⟨rfl, hb, kb⟩
            have ob := blk_kept OL.out kb (fun hs => hs.2 (.inr rfl))
            have HBB := Aside0.mk (hb.alloc (.cells #[.int .i64 (topX l).f0, .int .i64 (topX l).f1] 32))
            have ob2 := blk_alloc ob (.cells #[.int .i64 (topX l).f0, .int .i64 (topX l).f1] 32)
            have y0 := (blk_cell ob2 0).trans rfl
            have y1 := (blk_cell ob2 1).trans rfl
            have hlt9 := blk_lt ob
            clear ob ob2 hb kb HL OL
            go_wp2_with fail
            go_meet
            exact ⟨_, _, HBB⟩
          · go_wp2_with fail
            have hd := H9.out.below' (below_drew (Below.refl _ _))
            have HD := Aside0.mk hd
            clear hd
            go_region_held3 (fun w' => w'.cell? ⟨w7.heap.size, 0, none⟩ = some (.int .i64 job) ∧ w'.cell? ⟨w7.heap.size, 1, none⟩ = some (.int .i64 (k : Int)))
              (first | exact ⟨x0, x1⟩ | exact ⟨xa0, xa1⟩ | exact ⟨xb0, xb1⟩)
              (first
                | (go_at_call 20; refine (removeA job HD.out).mono ?_; rintro e wa ⟨rfl, ha, ka⟩; have oa := blk_kept (blk_drew O9.out) ka (fun hs => by have := hs.1; have := n8.out; omega); have xa0 := (blk_cell oa 0).trans rfl; have xa1 := (blk_cell oa 1).trans rfl; have OA := Aside0.mk oa; have HA := Aside0.mk ha; clear oa ha ka)
                | (go_at_call 21; refine (removeB job HA.out).mono ?_; rintro e wb ⟨rfl, hb, kb⟩; have ob := blk_kept OA.out kb (fun hs => hs.2 (.inr rfl)); have xb0 := (blk_cell ob 0).trans rfl; have xb1 := (blk_cell ob 1).trans rfl; have HBB := Aside0.mk hb; clear ob hb kb))
            have pp : (((l.length : Int) - ((keep job l).length : Int)) != ((l.length : Int) - ((keep job l).length : Int))) = false := by simp
            go_wp2_with fail
            go_meet
            exact ⟨_, _, HBB⟩
          · go_wp2_with fail
            refine (next_st 4 H9.out HT.out (by omega) (by omega)).mono ?_
            rintro e w10 ⟨q3, rfl, _, _, h10, _⟩
            have H10 := Aside0.mk h10
            clear h10 H9 O9 x0 x1
            by_cases hq : (q3 == 3) = true
            · have hl := H10.out.len_le
              go_wp2_with fail
              refine (drainA H10.out).mono ?_
              rintro e wa ⟨v1, rfl, r1, ha⟩
              have R1 := Aside0.mk r1
              have HA := Aside0.mk ha
              clear r1 ha
              go_wp2_with fail
              refine (drainB HA.out H10.out.vb_lt R1.out).mono ?_
              rintro e wb ⟨v2, rfl, r2, r1, hb⟩
              have R1' := Aside0.mk r1
              have R2 := Aside0.mk r2
              have HBB := Aside0.mk hb
              clear r1 r2 hb R1 HA H10
              go_wp2_with fail
              refine (same_calls R1'.out R2.out (by omega)).mono ?_
              rintro e wd ⟨rfl, hd⟩
              have HDD := Aside0.mk (HBB.out.drawn hd)
              clear hd HBB R1' R2
              go_wp2_with fail
              go_meet
              exact ⟨_, _, HDD⟩
            · have hq : (q3 == 3) = false := by simpa using hq
              go_wp2_with fail
              go_meet
              exact ⟨_, _, H10⟩
        case rest =>
          obtain ⟨l, X, HC⟩ := hcut
          have hl := HC.out.len_le
          go_wp2_with fail
          refine (lenA HC.out).mono ?_
          rintro e w' ⟨rfl, rfl⟩
          go_wp2_with fail
          refine (lenB HC.out).mono ?_
          rintro e w' ⟨rfl, rfl⟩
          have ll : ((l.length : Int) != (l.length : Int)) = false := by simp
          go_wp2_with fail
          refine (listA HC.out).mono ?_
          rintro e wa ⟨v1, rfl, r1, ba⟩
          have R1 := Aside0.mk r1
          have HA := Aside0.mk (HC.out.below' ba)
          clear r1 ba
          go_wp2_with fail
          refine (listB HA.out).mono ?_
          rintro e wb ⟨v2, rfl, r2, bb⟩
          have R1' := Aside0.mk (Kd.R_below R1.out bb)
          have R2 := Aside0.mk r2
          have HBB := Aside0.mk (HA.out.below' bb)
          clear r2 bb R1 HA HC
          go_wp2_with fail
          refine (same_calls R1'.out R2.out (by omega)).mono ?_
          rintro e wd ⟨rfl, hd⟩
          have HDD := Aside0.mk (HBB.out.drawn hd)
          clear hd HBB R1' R2
          go_wp2_with fail
          go_roundw
          case rel => exact ⟨k + 1, by omega, by go_num, l, X, HDD⟩
          case measure => simp [intOf]; omega
    · obtain rfl : k = 60 := by omega
      go_wp2_with fail
      refine (sane_calls _).mono ?_
      rintro e w7 ⟨rfl, b7⟩
      go_wp2_with fail
      go_ret
      exact ⟨rfl, below_then HS.out.below HS.out.below.size b7⟩

theorem law (a0 : Option Addr) (len0 cap0 : Nat) (z0 : List Int) (a1 : Int) (w : World)
    (w0 : (a0 = none ∧ len0 = 0 ∧ cap0 = 0 ∧ z0 = []) ∨ ∃ x, a0 = some x ∧ len0 ≤ cap0 ∧ cap0 ≤ maxLen ∧ z0.length = cap0 ∧ (∀ i, i < z0.length → w.cell? (x.add i) = some (.int .i64 (z0.getD i 0))) ∧ ∀ n ∈ z0, (Lit.int .i64 n).wf = true) :
    Calls Try.prog 4 #[.slice a0 len0 cap0, .int .i64 a1] w fun e w' => e = .returned (.bool true) ∧ Below w.heap.size w w' := by
  obtain ⟨l0, rfl, hr0, hm0, _, hc0⟩ := ReadsInt.ofRowC w0
  exact walk a0 cap0 l0 a1 w (Kd.C_of_reads (d := (0 : Int)) (h1 := fun _ => rfl) hr0) hc0 (by unfold maxLen at hm0; omega)

end Go.Proofs.Ytfnplpkplmhhnaa.Follows
