/- 'InjectorOrder' returns true for all inputs: tasks leave by bands, and within a band in the order in which they came, each exactly once. No conditions. This text: the walk of the law. -/
import Derived.Test.YtfneiocgjoalkaaTp
namespace Go.Proofs.Ytfneiocgjoalkaa.Order
open Go.RowKit Go.Proofs.YtfneiocgjoalkaaW.PrintWords Go.Proofs.YtfneiocgjoalkaaW.PrintLast Go.Proofs.YtfneiocgjoalkaaW.PrintMore
open Go.Proofs.Ytfneiocgjoalkaa.PInjectorFollows
open Go.Proofs.Ytfneiocgjoalkaa.Ij Go.Proofs.Ytfneiocgjoalkaa.Tp
set_option linter.unusedVariables false

/-! ### The plain law -/
/-- Behind k pushes. -/
def Fill (k : Nat) (L : Nat → List S33) : Prop := tot L = k ∧ ∀ b, b < 4 → (∀ x ∈ L b, x.f0 = (b : Int) ∧ 0 ≤ x.f1 ∧ x.f1 < (k : Int)) ∧ (L b).Pairwise (fun x y => x.f1 < y.f1)
/-- n tasks are left, and the last that left was (f0, f1). -/
def Drain (n : Nat) (L : Nat → List S33) (f0 f1 : Int) : Prop := tot L = n ∧ ∀ b, b < 4 → (∀ x ∈ L b, x.f0 = (b : Int) ∧ f0 ≤ (b : Int) ∧ (f0 = (b : Int) → f1 < x.f1)) ∧ (L b).Pairwise (fun x y => x.f1 < y.f1)

theorem fill_zero : Fill 0 (fun _ => []) := ⟨by simp [tot], fun b _ => ⟨by simp, by simp⟩⟩
theorem fill_push {k b : Nat} {L : Nat → List S33} (h : Fill k L) (hb : b < 4) : Fill (k + 1) (upd L b (L b ++ [⟨(b : Int), (k : Int)⟩])) := by
  refine ⟨?_, fun j hj => ?_⟩
  · have := tot_upd L b hb (L b ++ [⟨(b : Int), (k : Int)⟩])
    simp at this
    have := h.1
    omega
  · obtain ⟨h1, h2⟩ := h.2 j hj
    by_cases e : j = b
    · subst e
      rw [upd_self]
      refine ⟨fun x hx => ?_, ?_⟩
      · rcases List.mem_append.1 hx with hx | hx
        · obtain ⟨a, b, c⟩ := h1 x hx
          exact ⟨a, b, by omega⟩
        · rw [List.mem_singleton.1 hx]
          exact ⟨rfl, by simp only; omega, by simp only; omega⟩
      · rw [List.pairwise_append]
        refine ⟨h2, by simp, fun x hx y hy => ?_⟩
        rw [List.mem_singleton.1 hy]
        exact (h1 x hx).2.2
    · rw [upd_ne _ _ e]
      exact ⟨fun x hx => by obtain ⟨a, b, c⟩ := h1 x hx; exact ⟨a, b, by omega⟩, h2⟩
theorem drain_start {n : Nat} {L : Nat → List S33} (h : Fill n L) : Drain n L 0 (-1) :=
  ⟨h.1, fun b hb => ⟨fun x hx => by obtain ⟨p, q, r⟩ := (h.2 b hb).1 x hx; exact ⟨p, by omega, fun _ => by omega⟩, (h.2 b hb).2⟩⟩
theorem first_band (L : Nat → List S33) (h : 0 < tot L) : ∃ b, b < 4 ∧ (∀ j, j < b → L j = []) ∧ ∃ x xs, L b = x :: xs := by
  rcases h0 : L 0 with _ | ⟨x, xs⟩
  · rcases h1 : L 1 with _ | ⟨x, xs⟩
    · rcases h2 : L 2 with _ | ⟨x, xs⟩
      · rcases h3 : L 3 with _ | ⟨x, xs⟩
        · simp [tot, h0, h1, h2, h3] at h
        · exact ⟨3, by omega, fun j hj => by rcases (by omega : j = 0 ∨ j = 1 ∨ j = 2) with rfl | rfl | rfl <;> assumption, x, xs, h3⟩
      · exact ⟨2, by omega, fun j hj => by rcases (by omega : j = 0 ∨ j = 1) with rfl | rfl <;> assumption, x, xs, h2⟩
    · exact ⟨1, by omega, fun j hj => by obtain rfl : j = 0 := by omega
                                         assumption, x, xs, h1⟩
  · exact ⟨0, by omega, fun j hj => by omega, x, xs, h0⟩
theorem tot_zero (L : Nat → List S33) (h : tot L = 0) (b : Nat) (hb : b < 4) : L b = [] := by
  have := tot_le L b hb
  exact List.length_eq_zero_iff.1 (by omega)
theorem drain_pop {n b : Nat} {L : Nat → List S33} {f0 f1 : Int} {x : S33} {xs : List S33} (h : Drain (n + 1) L f0 f1) (hb : b < 4) (he : ∀ j, j < b → L j = []) (hx : L b = x :: xs) :
    (f0 ≤ x.f0 ∧ (f0 = x.f0 → f1 < x.f1)) ∧ Drain n (upd L b xs) x.f0 x.f1 := by
  have hin := (h.2 b hb).1 x (by rw [hx]; simp)
  have hp := (h.2 b hb).2
  rw [hx, List.pairwise_cons] at hp
  refine ⟨⟨by omega, fun e => hin.2.2 (by omega)⟩, ?_, fun j hj => ?_⟩
  · have := tot_upd L b hb xs
    rw [hx] at this
    simp at this
    have := h.1
    omega
  · by_cases e : j = b
    · subst e
      rw [upd_self]
      refine ⟨fun y hy => ?_, hp.2⟩
      have hy1 := (h.2 j hj).1 y (by rw [hx]; simp [hy])
      exact ⟨hy1.1, by omega, fun _ => hp.1 y hy⟩
    · rw [upd_ne _ _ e]
      refine ⟨fun y hy => ?_, (h.2 j hj).2⟩
      have hy1 := (h.2 j hj).1 y hy
      have hjb : ¬ j < b := fun hlt => by rw [he j hlt] at hy; simp at hy
      exact ⟨hy1.1, by omega, fun e2 => by omega⟩

/-- The injector at p, the tape before it. -/
structure Od (w0 w : World) (p tp B : Nat) (t : List Int) (L : Nat → List S33) : Prop where
  ij : Ij 49 w0 w p 100 (fun k => k ≠ p ∧ B ≤ k) L
  tape : OnTape w0 w tp t
  below : Below w0.heap.size w0 w
  tpB : tp < B
  pB : B ≤ p

section
variable {w0 w w1 : World} {p tp B : Nat} {t : List Int} {L : Nat → List S33}
theorem Od.next (n : Int) (H : Od w0 w p tp B t L) (hl : t.length ≤ 9223372036854775807) (hn : 1 ≤ n) (hb : n ≤ 4611686018427387904) :
    Calls Try.prog 9 #[.pointer (some ⟨tp, 0, none⟩), .int .i64 n] w fun e w' => ∃ r : Int, e = .returned (.int .i64 r) ∧ 0 ≤ r ∧ r < n ∧ Od w0 w' p tp B t L := by
  refine (next_calls n H.tape H.below hl hn hb).mono ?_
  rintro e w' ⟨r, he, r0, r1, a, b, k⟩
  exact ⟨r, he, r0, r1, H.ij.kept k (fun e => by have := H.tpB; have := H.pB; omega) (fun k hk e => by have := H.tpB; have := hk.2; omega), a, b, H.tpB, H.pB⟩
theorem Od.push (x : S33) {b : Nat} (H : Od w0 w p tp B t L) (hb4 : b < 4) (hl : tot L < 100) :
    Calls Try.prog 10 #[.pointer (some ⟨p, 0, none⟩), refV x, .int .i64 b] w fun e w' => e = .returned (.int .i64 0) ∧ Od w0 w' p tp B t (upd L b (L b ++ [x])) := by
  refine (push_ok x H.ij H.below hb4 (by omega) (by omega)).mono ?_
  rintro e w' ⟨he, a, b, k⟩
  exact ⟨he, a, H.tape.kept k (fun e => by have := H.tpB; have := H.pB; omega), b, H.tpB, H.pB⟩
end

attribute [local go_sem] refV

set_option maxHeartbeats 4000000 in
set_option maxRecDepth 100000 in
theorem walk (A : Option Addr) (cc : Nat) (t : List Int) (n : Int) (w : World) (hC : Kd.C (Kd.int .i64) w A t.length t) (hcc : t.length ≤ cc) (ht : t.length ≤ 9223372036854775807) :
    Calls Try.prog 3 #[.slice A t.length cc, .int .i64 n] w fun e w' => e = .returned (.bool true) ∧ Below w.heap.size w w' := by
  have HT := Aside0.mk ht
  obtain ⟨m1, hm1, m1a, m1b⟩ := mod_is n 50 (by omega) (by omega)
  have HM1 := Aside0.mk hm1
  clear hm1
  have HCC := Aside0.mk hC
  clear hC
  go_enter Try.func3, Try.ntmps3
  go_wp2_with fail
  refine (tape_new HCC.out hcc).mono ?_
  rintro e w1 ⟨tp, rfl, t1, b1⟩
  have T1 := Aside0.mk t1
  have B1 := Aside0.mk b1
  clear t1 b1
  go_wp2_with fail
  refine (new_ok 100 (by omega) (by omega) B1.out).mono ?_
  rintro e w3 ⟨p, rfl, h3, hp, b3⟩
  have H3 : Aside0 (Od w w3 p tp w1.heap.size t (fun _ => [])) := ⟨⟨h3, T1.out.below b3, below_then B1.out B1.out.size b3, T1.out.lt, hp⟩⟩
  clear h3 b3 T1 B1 hp
  generalize w1.heap.size = B at *
  go_wp2_with fail
  refine (tilefarmgen_Mod.calls n 50 m1 _ HM1.out).mono ?_
  rintro e w2 ⟨rfl, ⟨n1, rfl⟩⟩
  have hbd := pw_below_drewN (Below.refl w3.heap.size w3) n1
  have H4 : Aside0 (Od w (w3.drewN n1) p tp B t (fun _ => [])) := ⟨⟨H3.out.ij.below hbd, H3.out.tape.below hbd, below_then H3.out.below H3.out.below.size hbd, H3.out.tpB, H3.out.pB⟩⟩
  clear H3 hbd
  generalize w3.drewN n1 = w4 at *
  go_wp2_with fail
  obtain ⟨m, hm⟩ := Int.eq_ofNat_of_zero_le (show 0 ≤ 1 + m1 by omega)
  have hm2 : 1 ≤ m ∧ m ≤ 50 := by omega
  rw [hm]
  clear hm m1a m1b HM1
  go_loopw [9] (fun v9 wr => ∃ (k : Nat) (L : Nat → List S33), k ≤ m ∧ v9 = .int .i64 (k : Int) ∧ Fill k L ∧ Aside0 (Od w wr p tp B t L)) (fun i _ => m - (intOf i).toNat)
  case atStart => exact ⟨0, _, by omega, rfl, fill_zero, H4⟩
  case round =>
    clear H4
    obtain ⟨k, L, hk, rfl, hF, HS⟩ := hrel
    have HF := Aside0.mk hF
    clear hF
    by_cases hlt : k < m
    · go_wp2_with fail
      refine (HS.out.next 4 HT.out (by omega) (by omega)).mono ?_
      rintro e w5 ⟨r, rfl, r0, r1, h5⟩
      obtain ⟨r, rfl⟩ := Int.eq_ofNat_of_zero_le r0
      have H5 := Aside0.mk h5
      clear h5 HS
      go_wp2_with fail
      refine (H5.out.push (b := r) ⟨(r : Int), (k : Int)⟩ (by omega) (by have := HF.out.1; omega)).mono ?_
      rintro e w6 ⟨rfl, h6⟩
      have H6 := Aside0.mk h6
      clear h6 H5
      go_wp2_with fail
      go_roundw
      case rel => exact ⟨k + 1, _, by omega, by go_num, fill_push HF.out (by omega), H6⟩
      case measure => simp [intOf]; omega
    · obtain rfl : k = m := by omega
      have hpq := HS.out.ij.lt
      have hqw := HS.out.below.size
      have HI := Aside0.mk (HS.out.ij.skip (below_alloc (Below.refl wr.heap.size wr) (.cells #[.int .i64 0, .int .i64 (-1)] 33)) (by simp))
      have HO := Aside0.mk (blk_new wr (.cells #[.int .i64 0, .int .i64 (-1)] 33))
      have HB := Aside0.mk (below_alloc HS.out.below (.cells #[.int .i64 0, .int .i64 (-1)] 33))
      have hD := drain_start HF.out
      have HD := Aside0.mk hD
      clear hD HF HS
      go_wp2_with fail
      generalize wr.alloc (.cells #[.int .i64 0, .int .i64 (-1)] 33) = wz at *
      generalize wr.heap.size = q at *
      go_loopw [12] (fun v12 wr => ∃ (i : Nat) (L : Nat → List S33) (f0 f1 : Int), i ≤ k ∧ v12 = .int .i64 (i : Int) ∧ Aside0 (Drain (k - i) L f0 f1) ∧ Aside0 (Ij 49 w wr p 100 (fun j => (j ≠ p ∧ B ≤ j) ∧ j ≠ q) L) ∧ Aside0 (wr.heap[q]? = some (.cells #[.int .i64 f0, .int .i64 f1] 33 (0, 0))) ∧ Aside0 (Below w.heap.size w wr)) (fun i _ => k - (intOf i).toNat)
      case atStart => exact ⟨0, _, _, _, by omega, rfl, HD, HI, HO, HB⟩
      case round =>
        clear HI HO HB HD
        obtain ⟨i, L, f0, f1, hi, rfl, HD, HI, HO, HB⟩ := hrel
        by_cases hlt : i < k
        · obtain ⟨b, hb4, he, x, xs, hx⟩ := first_band L (by have := HD.out.1; omega)
          have hD := HD.out
          rw [show k - i = (k - (i + 1)) + 1 by omega] at hD
          obtain ⟨⟨g0, g1⟩, hD2⟩ := drain_pop hD hb4 he hx
          have HD2 := Aside0.mk hD2
          have HE := Aside0.mk he
          have HX := Aside0.mk hx
          have HT2 : Aside0 (tot L ≤ 1000000) := ⟨by have := hD.1; omega⟩
          clear hD hD2 he hx HD
          go_wp2_with fail
          refine (pop_ok HI.out HB.out hb4 HE.out HX.out HT2.out).mono ?_
          rintro e w5 ⟨rfl, h5, b5, k5⟩
          have o5 := blk_kept HO.out k5 (fun hh => hh.elim (fun e => by omega) (fun e => e.2 rfl))
          have hq5 := blk_lt o5
          have hqs : w5.heap.size ≠ q := by omega
          have H6 := Aside0.mk (h5.below (below_alloc (Below.refl w5.heap.size w5) (.cells #[.int .i64 x.f0, .int .i64 x.f1] 33)))
          have O6 := Aside0.mk (blk_alloc o5 (.cells #[.int .i64 x.f0, .int .i64 x.f1] 33))
          have S6 := Aside0.mk (blk_new w5 (.cells #[.int .i64 x.f0, .int .i64 x.f1] 33))
          have B6 := Aside0.mk (below_alloc b5 (.cells #[.int .i64 x.f0, .int .i64 x.f1] 33))
          clear h5 b5 k5 o5 HI HO HB HE HX HT2
          go_upto_region 17 with (fail)
          generalize w5.alloc (.cells #[.int .i64 x.f0, .int .i64 x.f1] 33) = w6 at *
          generalize w5.heap.size = s at *
          have l0 := (blk_cell O6.out 0).trans rfl
          have l1 := (blk_cell O6.out 1).trans rfl
          have z0 := blk_frozen O6.out 0
          have z1 := blk_frozen O6.out 1
          have r0 := (blk_cell S6.out 0).trans rfl
          have r1 := (blk_cell S6.out 1).trans rfl
          have c1 : decide (x.f0 < f0) = false := decide_eq_false (by omega)
          have fin : (∃ (L : Nat → List S33), Aside0 (Drain (k - (i + 1)) L x.f0 x.f1) ∧ Aside0 (Ij 49 w ((w6.setCell ⟨q, 0, none⟩ (.int .i64 x.f0)).setCell ⟨q, 1, none⟩ (.int .i64 x.f1)) p 100 (fun j => (j ≠ p ∧ B ≤ j) ∧ j ≠ q) L) ∧
              Aside0 (((w6.setCell ⟨q, 0, none⟩ (.int .i64 x.f0)).setCell ⟨q, 1, none⟩ (.int .i64 x.f1)).heap[q]? = some (.cells #[.int .i64 x.f0, .int .i64 x.f1] 33 (0, 0))) ∧ Aside0 (Below w.heap.size w ((w6.setCell ⟨q, 0, none⟩ (.int .i64 x.f0)).setCell ⟨q, 1, none⟩ (.int .i64 x.f1)))) := by
            have k2 : Kept w6 ((w6.setCell ⟨q, 0, none⟩ (.int .i64 x.f0)).setCell ⟨q, 1, none⟩ (.int .i64 x.f1)) (fun k => k = q) :=
              ((Kept.refl _ (fun k => k = q)).setCell (p := ⟨q, 0, none⟩) (.inl rfl) _).setCell (p := ⟨q, 1, none⟩) (.inl rfl) _
            refine ⟨_, HD2, ⟨H6.out.kept k2 (by omega) (fun k hk => hk.2)⟩, ⟨?_⟩, ⟨?_⟩⟩
            · simpa using blk_set (blk_set O6.out 0 (.int .i64 x.f0)) 1 (.int .i64 x.f1)
            · exact (B6.out.setCell (p := ⟨q, 0, none⟩) hqw _).setCell (p := ⟨q, 1, none⟩) hqw _
          obtain ⟨L2, F1, F2, F3, F4⟩ := fin
          clear H6 O6 S6 B6 HD2
          by_cases e0 : x.f0 = f0
          · have c2 : (x.f0 == f0) = true := by simp [e0]
            have c3 : decide (x.f1 ≤ f1) = false := decide_eq_false (by have := g1 e0.symm; omega)
            clear e0 g0 g1
            go_wp2_with fail
            go_roundw
            case rel => exact ⟨i + 1, L2, x.f0, x.f1, by omega, by go_num, F1, F2, F3, F4⟩
            case measure => simp [intOf]; omega
          · have c2 : (x.f0 == f0) = false := by simp [e0]
            clear g0 g1
            go_wp2_with fail
            go_roundw
            case rel => exact ⟨i + 1, L2, x.f0, x.f1, by omega, by go_num, F1, F2, F3, F4⟩
            case measure => simp [intOf]; omega
        · obtain rfl : i = k := by omega
          have ht : tot L = 0 := by have := HD.out.1; omega
          go_wp2_with fail
          refine (pop_none HI.out (tot_zero L ht)).mono ?_
          rintro e w5 ⟨rfl, b5⟩
          have b6 := below_alloc b5 (.cells #[.int .i64 0, .int .i64 0] 33)
          have H6 := Aside0.mk (HI.out.below b6)
          have B6 := Aside0.mk (below_then HB.out HB.out.size b6)
          clear b5 b6 HI HO HB HD
          go_wp2_with fail
          refine (len_calls H6.out (by omega)).mono ?_
          rw [ht]
          rintro e w7 ⟨rfl, rfl⟩
          go_wp2_with fail
          refine (sane_calls _).mono ?_
          rintro e w8 ⟨rfl, b8⟩
          go_wp2_with fail
          go_ret
          exact ⟨rfl, below_then B6.out B6.out.size b8⟩

theorem law (a0 : Option Addr) (len0 cap0 : Nat) (z0 : List Int) (a1 : Int) (w : World)
    (w0 : (a0 = none ∧ len0 = 0 ∧ cap0 = 0 ∧ z0 = []) ∨ ∃ x, a0 = some x ∧ len0 ≤ cap0 ∧ cap0 ≤ maxLen ∧ z0.length = cap0 ∧ (∀ i, i < z0.length → w.cell? (x.add i) = some (.int .i64 (z0.getD i 0))) ∧ ∀ n ∈ z0, (Lit.int .i64 n).wf = true) :
    Calls Try.prog 3 #[.slice a0 len0 cap0, .int .i64 a1] w fun e w' => e = .returned (.bool true) ∧ Below w.heap.size w w' := by
  obtain ⟨l0, rfl, hr0, hm0, _, hc0⟩ := ReadsInt.ofRowC w0
  exact walk a0 cap0 l0 a1 w (Kd.C_of_reads (d := (0 : Int)) (h1 := fun _ => rfl) hr0) hc0 (by unfold maxLen at hm0; omega)

end Go.Proofs.Ytfneiocgjoalkaa.Order
