/- 'CodecLimits' returns true for all integers: encodings of MaxBytes bytes are accepted, and longer ones are not. No conditions. This text: the walk of the law. -/
import Derived.Test.YtlballjigibphaaDe
namespace Go.Proofs.Ytlballjigibphaa.Lm
open Go.RowKit Go.Proofs.YtlballjigibphaaW.PrintWords Go.Proofs.YtlballjigibphaaW.PrintLast Go.Proofs.YtlballjigibphaaW.PrintMore
open Go.Proofs.Ytlballjigibphaa.PCodecLimits
open Go.Proofs.Ytlballjigibphaa.Wr Go.Proofs.Ytlballjigibphaa.Rd
set_option linter.unusedVariables false
attribute [local go_sem] zj

theorem empty_C (w : World) : Kd.C (Kd.int .i64) w none 0 ([] : List Int) := Kd.C_of_reads (enc := Value.int .i64) (d := (0 : Int)) (h1 := fun _ => rfl) ⟨rfl, by omega, fun h => absurd h (by omega)⟩

set_option maxHeartbeats 1000000 in
set_option maxRecDepth 100000 in
theorem same_empty (w : World) : Calls Try.prog 12 #[zj, zj] w fun e w' => e = .returned (.bool true) ∧ Below w.heap.size w w' := by
  have hs : tilefarmref4_Same.f 1 [] [] = some true := by decide
  unfold zj
  go_enter Try.func12, Try.ntmps12
  go_wp2_with fail
  refine (tilefarmref4_Same.calls 1 none 0 [] none 0 [] true _ (empty_C _) (Nat.le_refl _) (empty_C _) (Nat.le_refl _) hs).mono ?_
  rintro e w1 ⟨rfl, hd⟩
  have es : (w.alloc (.cells #[.slice none 0 0, .slice none 0 0, .slice none 0 0, .int .i64 0] 28)).heap.size = w.heap.size + 1 := by simp
  have hb0 := below_alloc (below_alloc (Below.refl w.heap.size w) (.cells #[.slice none 0 0, .slice none 0 0, .slice none 0 0, .int .i64 0] 28)) (.cells #[.slice none 0 0, .slice none 0 0, .slice none 0 0, .int .i64 0] 28)
  have oa := blk_below (blk_alloc (blk_new w (.cells #[.slice none 0 0, .slice none 0 0, .slice none 0 0, .int .i64 0] 28)) (.cells #[.slice none 0 0, .slice none 0 0, .slice none 0 0, .int .i64 0] 28)) hd.below
  have a0 := (blk_cell oa 0).trans rfl
  have a1 := (blk_cell oa 1).trans rfl
  have HB := Aside0.mk (below_then hb0 hb0.size hd.below)
  clear hd hb0 es oa
  go_wp2_with fail
  go_loopw [5] (fun v5 wr => v5 = .int .i64 0 ∧ w1 = wr) (fun _ _ => 0)
  case atStart => exact ⟨rfl, rfl⟩
  case round =>
    obtain ⟨rfl, rfl⟩ := hrel
    go_wp2_with fail
    go_loopw [6] (fun v6 wr => v6 = .int .i64 0 ∧ w1 = wr) (fun _ _ => 0)
    case atStart => exact ⟨rfl, rfl⟩
    case round =>
      obtain ⟨rfl, rfl⟩ := hrel
      go_wp2_with fail
      go_ret
      exact ⟨rfl, HB.out⟩

/-! ### The plain law: how long the encodings are -/
theorem numsB_len (bs : List Int) (l : List Int) (h : bs.length + 8 * l.length ≤ 262144) : (numsB bs l).length = bs.length + 8 * l.length := by
  induction l generalizing bs with
  | nil => simp [numsB]
  | cons n r ih =>
    simp only [List.length_cons] at h
    simp only [numsB]
    rw [if_neg (by omega), ih _ (by rw [List.length_append, be64_length]; omega), List.length_append, be64_length]
    simp only [List.length_cons]
    omega
theorem numsF_fits (bs : List Int) (full : Bool) (l : List Int) (h : bs.length + 8 * l.length ≤ 262144) : numsF bs full l = full := by
  induction l generalizing bs with
  | nil => simp [numsF]
  | cons n r ih =>
    simp only [List.length_cons] at h
    simp only [numsF]
    rw [if_neg (by omega), ih _ (by rw [List.length_append, be64_length]; omega)]
theorem numsF_over (bs : List Int) (full : Bool) (l : List Int) (h : bs.length ≤ 262144) (h2 : 262144 < bs.length + 8 * l.length) : numsF bs full l = true := by
  induction l generalizing bs with
  | nil => simp at h2; omega
  | cons n r ih =>
    simp only [List.length_cons] at h2
    simp only [numsF]
    by_cases hb : bs.length + 8 > 262144
    · rw [if_pos hb]
    · rw [if_neg hb]
      exact ih _ (by rw [List.length_append, be64_length]; omega) (by rw [List.length_append, be64_length]; omega)

theorem head_len (prio : Int) : (numsB (numsB [84, 70, 1] [prio, 0]) [0]).length = 27 := by
  have h1 : (numsB [84, 70, 1] [prio, 0]).length = 19 := by rw [numsB_len _ _ (by simp)]; rfl
  rw [numsB_len _ _ (by rw [h1]; simp), h1]; rfl
theorem encF_is (prio : Int) (l : List Int) (hl : l.length ≤ 32768) : encF prio l = decide (262144 < 35 + 8 * l.length) := by
  have h1 : (numsB [84, 70, 1] [prio, 0]).length = 19 := by rw [numsB_len _ _ (by simp)]; rfl
  have h2 := head_len prio
  have h3 : (numsB (numsB (numsB [84, 70, 1] [prio, 0]) [0]) [(l.length : Int)]).length = 35 := by rw [numsB_len _ _ (by rw [h2]; simp), h2]; rfl
  unfold encF listF
  rw [if_neg (by omega), numsF_fits [84, 70, 1] false _ (by simp), numsF_fits (numsB [84, 70, 1] [prio, 0]) false [0] (by rw [h1]; simp), numsF_fits _ false _ (by rw [h2]; simp)]
  by_cases h : 262144 < 35 + 8 * l.length
  · rw [decide_eq_true h]
    exact numsF_over _ _ _ (by omega) (by omega)
  · rw [decide_eq_false h]
    exact numsF_fits _ _ _ (by omega)
theorem encB_empty : encB 0 [] = 84 :: 70 :: 1 :: zs 32 := by decide +kernel

theorem foot_byte {w : World} {g n : Nat} {a : Int} {l : List Int} (h : Kd.C (Kd.int .u8) w (some ⟨g, 0, none⟩) (n + 1) (a :: l)) : w.cell? ⟨g, 0, none⟩ = some (.int .u8 a) := by
  obtain ⟨ad, he, h0⟩ := Kd.at_int h 0 (by omega) (by omega)
  injection he with he
  subst he
  simpa [rd, Addr.add] using h0

theorem bytes_block {w : World} {b : Nat} (xs : List Int) (h : w.heap[b]? = some (.cells (xs.map (Value.int .u8)).toArray 5 (0, 0))) (hx : xs.length ≤ 100) : Kd.C (Kd.int .u8) w (some ⟨b, 0, none⟩) xs.length xs := by
  refine Kd.C_of_reads (enc := Value.int .u8) (d := (0 : Int)) (h1 := fun _ => rfl) ⟨rfl, by omega, fun _ => ⟨_, rfl, fun i hi => ?_⟩⟩
  rw [add_plain, blk_cell h i]
  simp [List.getD_eq_getElem?_getD, hi]

set_option maxHeartbeats 2000000 in
set_option maxRecDepth 100000 in
theorem sane_calls (w : World) : Calls Try.prog 13 #[] w fun e w' => e = .returned (.bool true) ∧ Below w.heap.size w w' := by
  go_enter Try.func13, Try.ntmps13
  go_wp2_with fail
  refine (encode_outs (A0 := none) (A1 := none) (A := none) (c0 := 0) (c1 := 0) (c := 0) 0 [] (empty_C w) (by simp)).mono ?_
  rintro e w1 ⟨b1, ⟨hf, rfl⟩ | ⟨hf, v, rfl, r⟩⟩
  · rw [encF_is 0 [] (by simp)] at hf
    simp at hf
  · rw [encB_empty] at r
    obtain ⟨g, cap, rfl, _, hgl, _⟩ := Kd.R_form r (by simp)
    have hl : (84 :: 70 :: 1 :: zs 32).length = 35 := rfl
    have hr := Kd.R_reads' r
    rw [hl] at hr ⊢
    have x0 := foot_byte hr.2.2
    have HC := Aside0.mk hr.2.2
    have hcap := hr.2.1
    have B1 := Aside0.mk b1
    clear r hr b1 hf hl
    go_wp2_with fail
    refine (decode_empty HC.out hcap).mono ?_
    rintro e w2 ⟨rfl, b2⟩
    have hb2 := below_alloc (below_alloc b2 (.cells #[.slice none 0 0, .slice none 0 0, .slice none 0 0, .int .i64 0] 28)) (.cells #[.int .u8 84, .int .u8 70, .int .u8 2] 5)
    have es : (w2.alloc (.cells #[.slice none 0 0, .slice none 0 0, .slice none 0 0, .int .i64 0] 28)).heap.size = w2.heap.size + 1 := by simp
    have oj := blk_alloc (blk_new w2 (.cells #[.slice none 0 0, .slice none 0 0, .slice none 0 0, .int .i64 0] 28)) (.cells #[.int .u8 84, .int .u8 70, .int .u8 2] 5)
    have ob := blk_new (w2.alloc (.cells #[.slice none 0 0, .slice none 0 0, .slice none 0 0, .int .i64 0] 28)) (.cells #[.int .u8 84, .int .u8 70, .int .u8 2] 5)
    rw [es] at ob
    have x1 := (hb2.cell (p := ⟨g, 0, none⟩) hgl).trans x0
    have B3 := Aside0.mk (below_then B1.out B1.out.size hb2)
    have OJ := Aside0.mk oj
    have OB := Aside0.mk ob
    have hg3 : g < ((w2.alloc (.cells #[.slice none 0 0, .slice none 0 0, .slice none 0 0, .int .i64 0] 28)).alloc (.cells #[.int .u8 84, .int .u8 70, .int .u8 2] 5)).heap.size := Nat.lt_of_lt_of_le hgl hb2.size
    clear b2 hb2 es oj ob x0 HC B1
    go_wp2_with fail
    generalize (w2.alloc (.cells #[.slice none 0 0, .slice none 0 0, .slice none 0 0, .int .i64 0] 28)).alloc (.cells #[.int .u8 84, .int .u8 70, .int .u8 2] 5) = w3 at *
    refine (decode_head (w := w3) (A := some ⟨w2.heap.size + 1, 0, none⟩) (cp := 3) 84 70 2 [] (bytes_block [84, 70, 2] OB.out (by simp)) (by simp) (by simp) (.inr ⟨rfl, rfl, by omega⟩)).mono ?_
    rintro e w4 ⟨rfl, b4⟩
    have hb4 := below_alloc b4 (.cells #[.slice none 0 0, .slice none 0 0, .slice none 0 0, .int .i64 0] 28)
    have x2 := (hb4.cell (p := ⟨g, 0, none⟩) hg3).trans x1
    have j2 := blk_below OJ.out hb4
    have y0 := (blk_cell j2 0).trans rfl
    have y1 := (blk_cell j2 1).trans rfl
    have y2 := (blk_cell j2 2).trans rfl
    have y3 := (blk_cell j2 3).trans rfl
    have B4 := Aside0.mk (below_then B3.out B3.out.size hb4)
    clear b4 hb4 j2 OJ OB B3 x1 hg3
    go_wp2_with fail
    refine (same_empty _).mono ?_
    rintro e w5 ⟨rfl, b5⟩
    go_wp2_with fail
    go_ret
    exact ⟨rfl, below_then B4.out B4.out.size b5⟩

theorem info3 : (Try.prog.info? 3).map (fun i => (i.zero, i.size, i.bytes)) = some (some (.int .i64 0), 1, 8) := by kernel_rfl
theorem make_ints (n : Nat) (hn : n ≤ 1000000) (W : World) : (Instr.makeSlice 22 (.int .i64 (n : Int)) (.int .i64 (n : Int))).run Try.prog W = .ok (.slice (some ⟨W.heap.size, 0, none⟩) n n) (W.alloc (.cells (madeCells #[.int .i64 0] n) 3)) := by
  obtain ⟨i0, hi, hz0, hz1, hz2⟩ := info_parts info3
  have h := run_make (P := Try.prog) W 22 3 i0 _ Try.underlying22 hi hz0 .i64 .i64 (n : Int) (n : Int) (by omega) (by omega) (by rw [hz2]; omega) (by omega)
  rw [hz1, Int.toNat_natCast, Nat.mul_one] at h
  exact h
theorem make_bytes (n : Nat) (hn : n ≤ 1000000) (W : World) : (Instr.makeSlice 31 (.int .i64 (n : Int)) (.int .i64 (n : Int))).run Try.prog W = .ok (.slice (some ⟨W.heap.size, 0, none⟩) n n) (W.alloc (.cells (madeCells #[.int .u8 0] n) 5)) := by
  obtain ⟨i0, hi, hz0, hz1, hz2⟩ := info_parts info5
  have h := run_make (P := Try.prog) W 31 5 i0 _ Try.underlying31 hi hz0 .i64 .i64 (n : Int) (n : Int) (by omega) (by omega) (by rw [hz2]; omega) (by omega)
  rw [hz1, Int.toNat_natCast, Nat.mul_one] at h
  exact h
theorem made_C {w : World} {b n : Nat} {t : TypeId} (k : IntKind) (h : w.heap[b]? = some (.cells (madeCells #[.int k 0] n) t (0, 0))) (hn : n ≤ 1000000) : Kd.C (Kd.int k) w (some ⟨b, 0, none⟩) n (List.replicate n (0 : Int)) := by
  refine Kd.C_of_reads (enc := Value.int k) (d := (0 : Int)) (h1 := fun _ => rfl) ⟨by simp, by omega, fun _ => ⟨_, rfl, fun i hi => ?_⟩⟩
  rw [add_plain, blk_cell h i]
  have e : (List.replicate n (0 : Int)).getD i 0 = 0 := by rw [List.getD_eq_getElem?_getD, List.getElem?_replicate]; split <;> rfl
  rw [e]
  simp [madeCells, hi, Nat.mod_one]

theorem mod_is (a n : Int) (hn : 0 < n) (hb : n ≤ 4611686018427387904) : ∃ r, tilefarmgen_Mod.f a n = some r ∧ 0 ≤ r ∧ r < n := by
  have h1 := Int.tmod_lt_of_pos a hn
  have h2 : -n < Int.tmod a n := by
    have := Int.tmod_lt_of_pos (-a) hn
    rw [Int.neg_tmod] at this
    omega
  unfold tilefarmgen_Mod.f
  rw [if_neg (by omega)]
  split
  · have hw : wrap64 (Int.tmod a n + n) = Int.tmod a n + n := by unfold wrap64; omega
    rw [hw]
    exact ⟨_, rfl, by omega, by omega⟩
  · exact ⟨_, rfl, by omega, by omega⟩

theorem decode_zeros {w : World} {A : Option Addr} (M : Nat) (hC : Kd.C (Kd.int .u8) w A M (List.replicate M (0 : Int))) (hm : 3 ≤ M) (hM : M ≤ 1000000) :
    Calls Try.prog 17 #[.slice A M M] w fun e w' => ∃ c : Int, e = .returned (.tuple #[zj, .int .i64 c]) ∧ Below w.heap.size w w' ∧ c = (if 262144 < M then 5 else 4) := by
  by_cases h : 262144 < M
  · refine (decode_long A M M w h hM).mono ?_
    rintro e w2 ⟨rfl, hb⟩
    exact ⟨5, rfl, hb, (if_pos h).symm⟩
  · obtain ⟨K, rfl⟩ := Nat.exists_eq_add_of_le' hm
    have e3 : List.replicate (K + 3) (0 : Int) = 0 :: 0 :: 0 :: List.replicate K 0 := rfl
    have hl : (0 :: 0 :: 0 :: List.replicate K (0 : Int)).length = K + 3 := by simp
    rw [e3, ← hl] at hC
    have hd := decode_head (cp := K + 3) 0 0 0 (List.replicate K 0) hC (by omega) (by omega) (.inl (by omega))
    rw [hl] at hd
    refine hd.mono ?_
    rintro e w2 ⟨rfl, hb⟩
    exact ⟨4, rfl, hb, (if_neg h).symm⟩

set_option maxHeartbeats 4000000 in
set_option maxRecDepth 100000 in
theorem walk (n : Int) (w : World) : Calls Try.prog 7 #[.int .i64 n] w fun e w' => e = .returned (.bool true) ∧ Below w.heap.size w w' := by
  obtain ⟨m1, hm1, m1a, m1b⟩ := mod_is n 3 (by omega) (by omega)
  have HM1 := Aside0.mk hm1
  clear hm1
  obtain ⟨N, hN⟩ := Int.eq_ofNat_of_zero_le (show 0 ≤ 32762 + m1 by omega)
  obtain ⟨M, hM⟩ := Int.eq_ofNat_of_zero_le (show 0 ≤ 262143 + m1 by omega)
  have hmk := make_ints N (by omega)
  have hmb := make_bytes M (by omega)
  have hmk : ∀ W, (Instr.makeSlice 22 (.int .i64 (32762 + m1)) (.int .i64 (32762 + m1))).run Try.prog W = .ok (.slice (some ⟨W.heap.size, 0, none⟩) N N) (W.alloc (.cells (madeCells #[.int .i64 0] N) 3)) := fun W => by rw [hN]; exact hmk W
  have hmb : ∀ W, (Instr.makeSlice 31 (.int .i64 (262143 + m1)) (.int .i64 (262143 + m1))).run Try.prog W = .ok (.slice (some ⟨W.heap.size, 0, none⟩) M M) (W.alloc (.cells (madeCells #[.int .u8 0] M) 5)) := fun W => by rw [hM]; exact hmb W
  have hNb : 32762 ≤ N ∧ N ≤ 32764 := by omega
  have hMb : N + 229381 ≤ M ∧ M ≤ N + 229381 := by omega
  clear hN hM
  go_enter Try.func7, Try.ntmps7
  go_wp2_with fail
  refine (tilefarmgen_Mod.calls n 3 m1 _ HM1.out).mono ?_
  rintro e w1 ⟨rfl, ⟨n1, rfl⟩⟩
  have B1 := Aside0.mk (pw_below_drewN (Below.refl w.heap.size w) n1)
  generalize w.drewN n1 = w1 at *
  have J0 := blk_alloc (blk_new w1 (.cells (madeCells #[.int .i64 0] N) 3)) (.cells #[.slice none 0 0, .slice none 0 0, .slice (some ⟨w1.heap.size, 0, none⟩) N N, .int .i64 0] 28)
  have es : (w1.alloc (.cells (madeCells #[.int .i64 0] N) 3)).heap.size = w1.heap.size + 1 := by simp
  have J1 := blk_new (w1.alloc (.cells (madeCells #[.int .i64 0] N) 3)) (.cells #[.slice none 0 0, .slice none 0 0, .slice (some ⟨w1.heap.size, 0, none⟩) N N, .int .i64 0] 28)
  rw [es] at J1
  have hb2 := below_alloc (below_alloc (Below.refl w1.heap.size w1) (.cells (madeCells #[.int .i64 0] N) 3)) (.cells #[.slice none 0 0, .slice none 0 0, .slice (some ⟨w1.heap.size, 0, none⟩) N N, .int .i64 0] 28)
  have B2 := Aside0.mk (below_then B1.out B1.out.size hb2)
  have HC := Aside0.mk (made_C .i64 J0 (by omega))
  have HJ := Aside0.mk J1
  clear J0 es J1 hb2 B1
  go_wp2_with fail
  have hlr : (List.replicate N (0 : Int)).length = N := List.length_replicate
  have HE := encode_outs (w := (w1.alloc (.cells (madeCells #[.int .i64 0] N) 3)).alloc (.cells #[.slice none 0 0, .slice none 0 0, .slice (some ⟨w1.heap.size, 0, none⟩) N N, .int .i64 0] 28)) (A0 := none) (A1 := none) (A := some ⟨w1.heap.size, 0, none⟩) (c0 := 0) (c1 := 0) (c := N) 0 (List.replicate N 0) (by rw [hlr]; exact HC.out) (by rw [hlr]; omega)
  rw [hlr] at HE
  have hef := encF_is 0 (List.replicate N 0) (by rw [hlr]; omega)
  rw [hlr] at hef
  refine HE.mono ?_
  clear HE
  rintro e w2 ⟨b2, hcase⟩
  have j2 := blk_below HJ.out b2
  have y2 := (blk_cell j2 2).trans rfl
  have B3 := Aside0.mk (below_then B2.out B2.out.size b2)
  clear b2 j2 HJ HC B2 hlr
  rcases hcase with ⟨hf, rfl⟩ | ⟨hf, v, rfl, r⟩
  · have hlim : 262144 < 35 + 8 * N := of_decide_eq_true (hef.symm.trans hf)
    have t1 : decide (35 + 8 * (N : Int) ≤ 262144) = false := decide_eq_false (by omega)
    clear hf hef
    go_wp2_with fail
    have OB := blk_new w2 (.cells (madeCells #[.int .u8 0] M) 5)
    have hb3 := below_alloc (Below.refl w2.heap.size w2) (.cells (madeCells #[.int .u8 0] M) 5)
    have B4 := Aside0.mk (below_then B3.out B3.out.size hb3)
    refine (decode_zeros (w := w2.alloc (.cells (madeCells #[.int .u8 0] M) 5)) M (made_C .u8 OB (by omega)) (by omega) (by omega)).mono ?_
    rintro e w3 ⟨c, rfl, b4, hc⟩
    have hb4 := below_alloc b4 (.cells #[.slice none 0 0, .slice none 0 0, .slice none 0 0, .int .i64 0] 28)
    have B5 := Aside0.mk (below_then B4.out B4.out.size hb4)
    clear OB hb3 b4 hb4 B4 B3
    have t2 : decide ((M : Int) > 262144) = decide (c = 5) := by
      by_cases h : 262144 < M
      · rw [if_pos h] at hc; rw [decide_eq_true (by omega), decide_eq_true hc]
      · rw [if_neg h] at hc; rw [decide_eq_false (by omega), decide_eq_false (by omega)]
    have t3 : c ≠ 0 := by split at hc <;> omega
    have t4 : (c != 0) = true := bne_iff_ne.mpr t3
    have t3 : decide (c = 0) = false := decide_eq_false t3
    clear hc hlim hmk hmb HM1 hNb hMb
    clear m1a m1b
    go_wp2_with fail
    refine (sane_calls _).mono ?_
    rintro e w4 ⟨rfl, b5⟩
    go_wp2_with fail
    go_ret
    exact ⟨rfl, below_then B5.out B5.out.size b5⟩
  · have hlim : ¬ 262144 < 35 + 8 * N := of_decide_eq_false (hef.symm.trans hf)
    have t1 : decide (35 + 8 * (N : Int) ≤ 262144) = true := decide_eq_true (by omega)
    clear hf hef r
    go_wp2_with fail
    have OB := blk_new w2 (.cells (madeCells #[.int .u8 0] M) 5)
    have hb3 := below_alloc (Below.refl w2.heap.size w2) (.cells (madeCells #[.int .u8 0] M) 5)
    have B4 := Aside0.mk (below_then B3.out B3.out.size hb3)
    refine (decode_zeros (w := w2.alloc (.cells (madeCells #[.int .u8 0] M) 5)) M (made_C .u8 OB (by omega)) (by omega) (by omega)).mono ?_
    rintro e w3 ⟨c, rfl, b4, hc⟩
    have hb4 := below_alloc b4 (.cells #[.slice none 0 0, .slice none 0 0, .slice none 0 0, .int .i64 0] 28)
    have B5 := Aside0.mk (below_then B4.out B4.out.size hb4)
    clear OB hb3 b4 hb4 B4 B3
    have t2 : decide ((M : Int) > 262144) = decide (c = 5) := by
      by_cases h : 262144 < M
      · rw [if_pos h] at hc; rw [decide_eq_true (by omega), decide_eq_true hc]
      · rw [if_neg h] at hc; rw [decide_eq_false (by omega), decide_eq_false (by omega)]
    have t3 : c ≠ 0 := by split at hc <;> omega
    have t4 : (c != 0) = true := bne_iff_ne.mpr t3
    have t3 : decide (c = 0) = false := decide_eq_false t3
    clear hc hlim hmk hmb HM1 hNb hMb
    clear m1a m1b
    go_wp2_with fail
    refine (sane_calls _).mono ?_
    rintro e w4 ⟨rfl, b5⟩
    go_wp2_with fail
    go_ret
    exact ⟨rfl, below_then B5.out B5.out.size b5⟩

theorem law (a0 : Int) (w : World) : Calls Try.prog 7 #[.int .i64 a0] w fun e w' => e = .returned (.bool true) ∧ Below w.heap.size w w' := walk a0 w

end Go.Proofs.Ytlballjigibphaa.Lm
