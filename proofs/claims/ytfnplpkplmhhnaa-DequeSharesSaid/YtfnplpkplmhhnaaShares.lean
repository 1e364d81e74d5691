/- 'DequeShares' returns true for all inputs: lists are new memory, removing the tasks of a job keeps the order of the others, and what a nil and a zero deque answer. No conditions. This text: the walk of the law. -/
import Derived.Test.YtfnplpkplmhhnaaBoth
namespace Go.Proofs.Ytfnplpkplmhhnaa.Shares
open Go.RowKit Go.Proofs.YtfnplpkplmhhnaaW.PrintWords Go.Proofs.YtfnplpkplmhhnaaW.PrintLast Go.Proofs.YtfnplpkplmhhnaaW.PrintMore
open Go.Proofs.Ytfnplpkplmhhnaa.PDequeFollows
open Go.Proofs.Ytfnplpkplmhhnaa.Dq
open Go.Proofs.Ytfnplpkplmhhnaa.Tp Go.Proofs.Ytfnplpkplmhhnaa.Both
set_option linter.unusedVariables false

/-- Where a row that is not empty lies, and that its block is long enough. -/
theorem row_block {w : World} {base : Nat} {ok : Nat → Prop} {v : Value} {l : List S32} (h : Kd.R k32 32 w base ok v l) (hl : 0 < l.length) :
    ∃ g c, v = .slice (some ⟨g, 0, none⟩) l.length c ∧ base ≤ g ∧ g < w.heap.size ∧ ∃ cur, w.heap[g]? = some (.cells cur 32 (0, 0)) ∧ l.length * 2 ≤ cur.size := by
  obtain ⟨_, inner, ho, _⟩ := h
  rcases ho.2 with ⟨_, h0⟩ | ⟨g, cap, cur, hv, hb, hh, hn, _, hs, _⟩
  · omega
  · have hs' : cur.size = cap * 2 := hs
    exact ⟨g, cap, hv, hb, blk_lt hh, cur, hh, by omega⟩

set_option maxHeartbeats 4000000 in
set_option maxRecDepth 100000 in
theorem walk (A : Option Addr) (cc : Nat) (t : List Int) (n : Int) (w : World) (hC : Kd.C (Kd.int .i64) w A t.length t) (hcc : t.length ≤ cc) (ht : t.length ≤ 9223372036854775807) :
    Calls Try.prog 5 #[.slice A t.length cc, .int .i64 n] w fun e w' => e = .returned (.bool true) ∧ Below w.heap.size w w' := by
  have HT := Aside0.mk ht
  obtain ⟨j, hj, _, _⟩ := mod_is n 3 (by omega) (by omega)
  have HJ := Aside0.mk hj
  clear hj
  have HCC := Aside0.mk hC
  clear hC
  go_enter Try.func5, Try.ntmps5
  go_wp2_with fail
  refine (tape_new HCC.out hcc).mono ?_
  rintro e w1 ⟨tp, rfl, t1, b1⟩
  have T1 := Aside0.mk t1
  have B1 := Aside0.mk b1
  clear t1 b1
  go_wp2_with fail
  refine (new_ok 20 (by omega) (by omega) B1.out).mono ?_
  rintro e w2 ⟨p, g, rfl, d2, hp, hg, b2⟩
  have N2 : Aside0 (tp ≠ p ∧ tp ≠ g) := ⟨by have := T1.out.lt; omega⟩
  have T2 := Aside0.mk (T1.out.kept (Kept.of_below b2 (fun _ => False)) id)
  have D2 := Aside0.mk d2
  have B2 := Aside0.mk (below_then B1.out B1.out.size b2)
  clear d2 b2 hp hg T1 B1
  go_wp2_with fail
  refine (tilefarmgen_Mod.calls n 3 j _ HJ.out).mono ?_
  rintro e w3 ⟨rfl, ⟨n1, rfl⟩⟩
  go_wp2_with fail
  have kk : Kept w2 (w2.drewN n1) (fun _ => False) := (Kept.refl _ _).drewN _
  refine (next_calls 20 (T2.out.kept kk id) (pw_below_drewN B2.out n1) HT.out (by omega) (by omega)).mono ?_
  rintro e w4 ⟨r, rfl, r0, r1, t4, b4, k4⟩
  have d4 := (D2.out.kept kk id id).kept k4 (fun e => N2.out.1 e.symm) (fun e => N2.out.2 e.symm)
  have D4 := Aside0.mk d4
  have T4 := Aside0.mk t4
  have B4 := Aside0.mk b4
  clear kk d4 t4 b4 k4 D2 T2 B2
  obtain ⟨c, hc, c1, c2⟩ : ∃ c : Nat, 1 + r = (c : Int) ∧ 1 ≤ c ∧ c ≤ 20 := ⟨(1 + r).toNat, by omega, by omega, by omega⟩
  go_wp2_with fail
  clear hc
  go_loopw [8, 11, 12] (fun v i _ wr => ∃ k : Nat, k ≤ c ∧ i = .int .i64 (k : Int) ∧ ∃ L : List S32, L.length = k ∧ Aside0 (Dq w wr p g 20 0 L) ∧ Aside0 (OnTape w wr tp t) ∧ Aside0 (Below w.heap.size w wr) ∧ Aside0 (Kd.R k32 32 wr w.heap.size (fun b => b ≠ p ∧ b ≠ g ∧ b ≠ tp) v (keep j L))) (fun _ i _ _ => c - (intOf i).toNat)
  case atStart => exact ⟨0, by omega, rfl, [], rfl, D4, T4, B4, ⟨Kd.R_nil _ _ _ _ _⟩⟩
  case round =>
    clear D4 T4 B4
    obtain ⟨k, hk, rfl, L, hL, HD, HTP, HB, HR⟩ := hrel
    by_cases hlt : k < c
    · have hL2 : L.length < 20 := by omega
      have HL := Aside0.mk hL
      clear hL
      go_wp2_with fail
      refine (next_calls 3 HTP.out HB.out HT.out (by omega) (by omega)).mono ?_
      rintro e w5 ⟨job, rfl, _, _, t5, b5, k5⟩
      have d5 := HD.out.kept k5 (fun e => N2.out.1 e.symm) (fun e => N2.out.2 e.symm)
      have r5 := Kd.R_kept HR.out k5 (fun b hb e => hb.2.2 e)
      have D5 := Aside0.mk d5
      have T5 := Aside0.mk t5
      have B5 := Aside0.mk b5
      have R5 := Aside0.mk r5
      clear d5 t5 b5 r5 k5 HD HTP HB HR
      have lb := below_alloc (Below.refl w5.heap.size w5) (.cells #[.int .i64 job, .int .i64 (k : Int)] 32)
      have LB := Aside0.mk lb
      clear lb
      have hp5 := blk_lt D5.out.obj
      have hg5 : g < w5.heap.size := by obtain ⟨cur, q, _⟩ := D5.out.ring; exact blk_lt q
      have ht5 := T5.out.lt
      have ob : Aside0 ((w5.alloc (.cells #[.int .i64 job, .int .i64 (k : Int)] 32)).heap[w5.heap.size]? = some (.cells #[.int .i64 job, .int .i64 (k : Int)] 32 (0, 0))) := ⟨blk_new _ _⟩
      go_wp2_with fail
      refine (push_ok ⟨job, (k : Int)⟩ (D5.out.below LB.out) (below_then B5.out B5.out.size LB.out) hL2).mono ?_
      rintro e w6 ⟨rfl, d6, b6, k6⟩
      have o6 := blk_kept ob.out k6 (fun h => h.elim (fun e => by omega) (fun e => by omega))
      have x0 := (blk_cell o6 0).trans rfl
      have x1 := (blk_cell o6 1).trans rfl
      have r6 := Kd.R_kept (Kd.R_below R5.out LB.out) k6 (fun b hb e => e.elim hb.1 hb.2.1)
      have t6 := (T5.out.kept (Kept.of_below LB.out (fun _ => False)) id).kept k6 (fun e => e.elim N2.out.1 N2.out.2)
      have s6 := k6.1
      simp only [World.size_alloc] at s6
      have D6 := Aside0.mk d6
      have T6 := Aside0.mk t6
      have B6 := Aside0.mk b6
      have R6 := Aside0.mk r6
      clear d6 t6 b6 k6 r6 o6 ob D5 T5 B5 R5 LB
      have hkl := keep_length j L
      by_cases hj : (job != j) = true
      · go_wp2_with (at_builtin; refine Kd.R_append k32 (W := w6) w.heap.size rfl _ _ 43 32 (.agg #[.int .i64 0, .int .i64 0]) 16 rfl Try.underlying43 info32 rfl (by decide) (by decide) u8 (keep j L) ⟨job, (k : Int)⟩ [.int .i64 job, .int .i64 (k : Int)] (fun b => b ≠ p ∧ b ≠ g ∧ b ≠ tp) (fun _ => False) rfl rfl (k32_mkM _ _ _ _) (fun _ h => h.elim) (fun b hb => by omega) R6.out B6.out B6.out.size (by omega) ?_; intro v1 w7 hown hb7 hg7 hat)
        go_roundw
        case rel =>
          have kg : Kept w6 w7 (fun b => b ≠ p ∧ b ≠ g ∧ b ≠ tp) := Kept.of_grown hg7 (Kept.refl _ _) (fun b hb => .inl (R6.out.1 b hb))
          refine ⟨k + 1, by omega, by go_num, L ++ [⟨job, (k : Int)⟩], by simp [HL.out], ⟨D6.out.kept kg (fun h => h.1 rfl) (fun h => h.2.1 rfl)⟩, ⟨T6.out.kept kg (fun h => h.2.2 rfl)⟩, ⟨hb7⟩, ⟨?_⟩⟩
          rw [keep_snoc_yes _ _ _ hj]
          exact hown
        case measure => simp [intOf]; omega
      · have hj : (job != j) = false := by simpa using hj
        go_wp2_with fail
        go_roundw
        case rel =>
          refine ⟨k + 1, by omega, by go_num, L ++ [⟨job, (k : Int)⟩], by simp [HL.out], D6, T6, B6, ⟨?_⟩⟩
          rw [keep_snoc_no _ _ _ hj]
          exact R6.out
        case measure => simp [intOf]; omega
    · obtain rfl : k = c := by omega
      go_wp2_with fail
      refine (list_calls HD.out).mono ?_
      rintro e w5 ⟨vl, rfl, rl, b5⟩
      obtain ⟨Aw, cw, rfl⟩ := Kd.R_slice HR.out
      have hkl := keep_length j L
      obtain ⟨gl, cl, rfl, hgl, hgl2, ob⟩ := row_block rl (by omega)
      have hp5 := blk_lt HD.out.obj
      have hg5 : g < wr.heap.size := by obtain ⟨cur, q, _⟩ := HD.out.ring; exact blk_lt q
      have D5 := Aside0.mk (HD.out.below b5)
      have B5 := Aside0.mk (below_then HB.out HB.out.size b5)
      have R5 : Aside0 (Kd.R k32 32 w5 w.heap.size (fun b => b ≠ p ∧ b ≠ g ∧ b ≠ gl) (.slice Aw (keep j L).length cw) (keep j L)) :=
        ⟨Kd.R_below (Kd.R_mono (Kd.R_bound HR.out) (fun b hb => ⟨hb.1.1, hb.1.2.1, by have := hb.2.2.1; omega⟩)) b5⟩
      have OB := Aside0.mk ob
      have WL := Aside0.mk (Nat.le_trans HB.out.size hgl)
      have HL := Aside0.mk hL
      have NG : Aside0 (gl ≠ p ∧ gl ≠ g) := ⟨by omega, by omega⟩
      clear rl b5 ob HD HB HR HTP hgl hgl2
      rw [HL.out]
      clear hL
      go_wp2_with fail
      go_loopw [14] (fun i wr => ∃ q : Nat, q ≤ k ∧ i = .int .i64 (q : Int) ∧ Aside0 (Dq w wr p g 20 0 L) ∧ Aside0 (Below w.heap.size w wr) ∧ Aside0 (Kd.R k32 32 wr w.heap.size (fun b => b ≠ p ∧ b ≠ g ∧ b ≠ gl) (.slice Aw (keep j L).length cw) (keep j L)) ∧ Aside0 (∃ cur, wr.heap[gl]? = some (.cells cur 32 (0, 0)) ∧ L.length * 2 ≤ cur.size)) (fun i _ => k - (intOf i).toNat)
      case atStart => exact ⟨0, by omega, rfl, D5, B5, R5, OB⟩
      case round =>
        clear D5 B5 R5 OB
        obtain ⟨q, hq, rfl, HD, HB, HR, OB⟩ := hrel
        by_cases hlt2 : q < k
        · obtain ⟨cur, o1, o2⟩ := OB.out
          rw [HL.out] at o2
          obtain ⟨u0, k0⟩ : ∃ u, wr.cell? ⟨gl, q * 2, none⟩ = some u := ⟨_, (blk_cell o1 _).trans (Array.getElem?_eq_getElem (by omega))⟩
          obtain ⟨u1, k1⟩ : ∃ u, wr.cell? ⟨gl, q * 2 + 1, none⟩ = some u := ⟨_, (blk_cell o1 _).trans (Array.getElem?_eq_getElem (by omega))⟩
          have f0 := blk_frozen o1 (q * 2)
          have f1 := blk_frozen o1 (q * 2 + 1)
          have O1 := Aside0.mk o1
          have O2 := Aside0.mk o2
          clear o1 o2 OB
          go_wp2_with fail
          go_roundw
          case rel =>
            have kg : Kept wr ((wr.setCell ⟨gl, q * 2, none⟩ (.int .i64 99)).setCell ⟨gl, q * 2 + 1, none⟩ (.int .i64 0)) (fun b => b = gl) := Kept.setCell (S := fun b => b = gl) (p := ⟨gl, q * 2 + 1, none⟩) (Kept.setCell (S := fun b => b = gl) (p := ⟨gl, q * 2, none⟩) (Kept.refl wr _) (.inl rfl) _) (.inl rfl) _
            exact ⟨q + 1, by omega, by go_num, ⟨HD.out.kept kg (Ne.symm NG.out.1) (Ne.symm NG.out.2)⟩, ⟨(HB.out.setCell (by exact WL.out) _).setCell (by exact WL.out) _⟩, ⟨Kd.R_kept HR.out kg (fun b hb e => hb.2.2 e)⟩, ⟨_, blk_set (blk_set O1.out _ _) _ _, by simp; have := O2.out; have := HL.out; omega⟩⟩
          case measure => simp [intOf]; omega
        · obtain rfl : q = k := by omega
          go_wp2_with fail
          refine (remove_calls j HD.out HB.out).mono ?_
          rintro e w6 ⟨rfl, d6, b6, k6⟩
          have r6 := Kd.R_kept HR.out k6 (fun b hb e => e.elim hb.1 hb.2.1)
          have D6 := Aside0.mk d6
          have B6 := Aside0.mk b6
          have R6 := Aside0.mk r6
          clear d6 b6 k6 r6 HD HB HR OB
          rw [HL.out]
          have hl20 : L.length ≤ 20 := D6.out.len |> fun _ => by have := HL.out; omega
          go_wp2_with fail
          obtain ⟨W, hW, d7, b7, r7, o7⟩ : ∃ W, w6.alloc (.cells #[.slice none 0 0, .int .i64 0, .int .i64 0] 46) = W ∧ Dq w W p g 20 0 (keep j L) ∧ Below w.heap.size w W ∧ Kd.R k32 32 W w.heap.size (fun b => b ≠ p ∧ b ≠ g ∧ b ≠ gl) (.slice Aw (keep j L).length cw) (keep j L) ∧
              W.heap[w6.heap.size]? = some (.cells #[.slice none 0 0, .int .i64 0, .int .i64 0] 46 (0, 0)) :=
            ⟨_, rfl, D6.out.below (below_alloc (Below.refl _ _) _), below_alloc B6.out _, Kd.R_alloc R6.out _, blk_new _ _⟩
          rw [hW]
          have D7 := Aside0.mk d7
          have B7 := Aside0.mk b7
          have R7 := Aside0.mk r7
          have O7 := Aside0.mk o7
          have P7 : Aside0 (w6.heap.size < W.heap.size ∧ w.heap.size ≤ w6.heap.size) := ⟨blk_lt o7, B6.out.size⟩
          clear hW d7 b7 r7 o7 D6 B6 R6
          refine (pop_nil _).mono ?_
          rintro e w8 ⟨rfl, b8⟩
          have B8 := Aside0.mk (below_alloc b8 (.cells #[.int .i64 0, .int .i64 0] 32))
          clear b8
          go_wp2_with fail
          refine (steal_none w6.heap.size _ (by have := P7.out.1; have := B8.out.size; omega) ((blk_cell (blk_below O7.out B8.out) 2).trans rfl)).mono ?_
          rintro e w9 ⟨rfl, b9⟩
          have B9 := Aside0.mk (below_alloc (below_then B8.out B8.out.size b9) (.cells #[.int .i64 0, .int .i64 0] 32))
          clear b9 B8
          go_wp2_with fail
          refine (push_nil 0 0 _).mono ?_
          rintro e w10 ⟨rfl, b10⟩
          have B10 := Aside0.mk (below_then B9.out B9.out.size b10)
          clear b10 B9
          go_wp2_with fail
          refine (push_zero w6.heap.size 0 0 _ (by have := P7.out.1; have := B10.out.size; omega) ((blk_cell (blk_below O7.out B10.out) 0).trans rfl)).mono ?_
          rintro e w11 ⟨rfl, b11⟩
          have B11 := Aside0.mk (below_then B10.out B10.out.size b11)
          clear b11 B10
          have ee : (((q : Int) - ((keep j L).length : Int)) == ((q : Int) - ((keep j L).length : Int))) = true := by simp
          go_wp2_with fail
          refine (list_calls (D7.out.below B11.out)).mono ?_
          rintro e w12 ⟨v2, rfl, r2, b12⟩
          have R2 := Aside0.mk r2
          have B12 := Aside0.mk (below_then B11.out B11.out.size b12)
          clear r2 b12 B11
          go_wp2_with fail
          refine (same_calls R2.out (Kd.R_below R7.out B12.out) (by omega)).mono ?_
          rintro e w13 ⟨rfl, hd⟩
          have B13 := Aside0.mk (below_then B12.out B12.out.size hd.below)
          clear hd B12 R2
          go_wp2_with fail
          refine (len_nil _).mono ?_
          rintro e w14 ⟨rfl, rfl⟩
          go_wp2_with fail
          refine (remove_nil 0 _).mono ?_
          rintro e w15 ⟨rfl, rfl⟩
          go_wp2_with fail
          refine (drain_zero w6.heap.size _ (blk_below O7.out B13.out)).mono ?_
          rintro e w16 ⟨rfl, b16, _⟩
          have b17 := b16 w.heap.size P7.out.2
          have B17 := Aside0.mk ((below_then B7.out B7.out.size B13.out).trans b17)
          clear b16 b17
          go_wp2_with fail
          refine (list_nil _).mono ?_
          rintro e w18 ⟨rfl, rfl⟩
          go_wp2_with fail
          refine (sane_calls _).mono ?_
          rintro e w19 ⟨rfl, b19⟩
          go_wp2_with fail
          go_ret
          exact ⟨rfl, below_then B17.out B17.out.size b19⟩

theorem law (a0 : Option Addr) (len0 cap0 : Nat) (z0 : List Int) (a1 : Int) (w : World)
    (w0 : (a0 = none ∧ len0 = 0 ∧ cap0 = 0 ∧ z0 = []) ∨ ∃ x, a0 = some x ∧ len0 ≤ cap0 ∧ cap0 ≤ maxLen ∧ z0.length = cap0 ∧ (∀ i, i < z0.length → w.cell? (x.add i) = some (.int .i64 (z0.getD i 0))) ∧ ∀ n ∈ z0, (Lit.int .i64 n).wf = true) :
    Calls Try.prog 5 #[.slice a0 len0 cap0, .int .i64 a1] w fun e w' => e = .returned (.bool true) ∧ Below w.heap.size w w' := by
  obtain ⟨l0, rfl, hr0, hm0, _, hc0⟩ := ReadsInt.ofRowC w0
  exact walk a0 cap0 l0 a1 w (Kd.C_of_reads (d := (0 : Int)) (h1 := fun _ => rfl) hr0) hc0 (by unfold maxLen at hm0; omega)

end Go.Proofs.Ytfnplpkplmhhnaa.Shares
