/- Encode of a job that has outputs alone, walked. -/
import Derived.Test.YtlballjigibphaaWr2
namespace Go.Proofs.Ytlballjigibphaa.Wr
open Go.RowKit Go.Proofs.YtlballjigibphaaW.PrintWords Go.Proofs.YtlballjigibphaaW.PrintLast Go.Proofs.YtlballjigibphaaW.PrintMore
open Go.Proofs.Ytlballjigibphaa.PCodecLimits
set_option linter.unusedVariables false

def encB (prio : Int) (l : List Int) : List Int := listB (numsB (numsB [84, 70, 1] [prio, 0]) [0]) l
def encF (prio : Int) (l : List Int) : Bool := listF (numsB (numsB [84, 70, 1] [prio, 0]) [0]) (numsF (numsB [84, 70, 1] [prio, 0]) (numsF [84, 70, 1] false [prio, 0]) [0]) l

/-- A writer that was just made. -/
theorem wr_new {w0 w : World} (hB : Below w0.heap.size w0 w) :
    Wr w0 ((w.alloc (.cells #[.int .u8 84, .int .u8 70, .int .u8 1] 5)).alloc (.cells #[.slice (some ⟨w.heap.size, 0, none⟩) 3 3, .bool false] 72)) (w.heap.size + 1) (fun k => k ≠ w.heap.size + 1 ∧ w.heap.size ≤ k) [84, 70, 1] false := by
  have hs := hB.size
  have e1 : (w.alloc (.cells #[.int .u8 84, .int .u8 70, .int .u8 1] 5)).heap.size = w.heap.size + 1 := by simp
  have h1 := blk_new (w.alloc (.cells #[.int .u8 84, .int .u8 70, .int .u8 1] 5)) (.cells #[.slice (some ⟨w.heap.size, 0, none⟩) 3 3, .bool false] 72)
  rw [e1] at h1
  have r0 : Kd.R (Kd.int .u8) 5 (w.alloc (.cells #[.int .u8 84, .int .u8 70, .int .u8 1] 5)) w0.heap.size (fun k => k ≠ w.heap.size + 1 ∧ w.heap.size ≤ k) (.slice (some ⟨w.heap.size, 0, none⟩) 3 3) [84, 70, 1] := by
    refine ⟨fun k hk => ?_, [.int .u8 84, .int .u8 70, .int .u8 1], ?_, ?_⟩
    · have : w.heap.size = k := by simpa [Value.ownBlock] using hk
      subst this
      exact ⟨by omega, Nat.le_refl _⟩
    · exact World.ownsRow_lit (base := w0.heap.size) (e := 5) (size := 1) w #[.int .u8 84, .int .u8 70, .int .u8 1] 3 hs (by simp [maxLen]) rfl
    · refine ⟨rfl, fun j q hj => ?_⟩
      rcases (by have := (List.getElem?_eq_some_iff.1 hj).1; simp at this; omega : j = 0 ∨ j = 1 ∨ j = 2) with rfl | rfl | rfl
      · simp at hj; subst hj; rfl
      · simp at hj; subst hj; rfl
      · simp at hj; subst hj; rfl
  exact ⟨⟨_, h1, Kd.R_alloc r0 _⟩, by omega, fun h => h.1 rfl, fun k hk => by simp at hk; omega, by simp⟩

set_option maxHeartbeats 2000000 in
set_option maxRecDepth 100000 in
theorem encode_outs {w : World} {A0 A1 A : Option Addr} {c0 c1 c : Nat} (prio : Int) (l : List Int) (hC : Kd.C (Kd.int .i64) w A l.length l) (hl : l.length ≤ 1000000) :
    Calls Try.prog 11 #[.agg #[.slice A0 0 c0, .slice A1 0 c1, .slice A l.length c, .int .i64 prio]] w fun e w' =>
      Below w.heap.size w w' ∧ ((encF prio l = true ∧ e = .returned (.tuple #[.slice none 0 0, .int .i64 5])) ∨ (encF prio l = false ∧ ∃ v, e = .returned (.tuple #[v, .int .i64 0]) ∧ Kd.R (Kd.int .u8) 5 w' w.heap.size (fun _ => True) v (encB prio l))) := by
  have hbj := below_alloc (Below.refl w.heap.size w) (.cells #[.slice A0 0 c0, .slice A1 0 c1, .slice A l.length c, .int .i64 prio] 28)
  have J0 := blk_new w (.cells #[.slice A0 0 c0, .slice A1 0 c1, .slice A l.length c, .int .i64 prio] 28)
  have es : (w.alloc (.cells #[.slice A0 0 c0, .slice A1 0 c1, .slice A l.length c, .int .i64 prio] 28)).heap.size = w.heap.size + 1 := by simp
  have HW := Aside0.mk (wr_new (w0 := w) hbj)
  rw [es] at HW
  have HBJ := Aside0.mk hbj
  have HJ := Aside0.mk (blk_alloc (blk_alloc J0 (.cells #[.int .u8 84, .int .u8 70, .int .u8 1] 5)) (.cells #[.slice (some ⟨w.heap.size + 1, 0, none⟩) 3 3, .bool false] 72))
  have HB := Aside0.mk (below_alloc (below_alloc hbj (.cells #[.int .u8 84, .int .u8 70, .int .u8 1] 5)) (.cells #[.slice (some ⟨w.heap.size + 1, 0, none⟩) 3 3, .bool false] 72))
  have HC := Aside0.mk hC
  have HB0 := Aside0.mk (below_alloc (below_alloc hbj (.cells #[.int .u8 84, .int .u8 70, .int .u8 1] 5)) (.cells #[.slice (some ⟨w.heap.size + 1, 0, none⟩) 3 3, .bool false] 72))
  clear hbj J0 es hC
  have es3 : (((w.alloc (.cells #[.slice A0 0 c0, .slice A1 0 c1, .slice A l.length c, .int .i64 prio] 28)).alloc (.cells #[.int .u8 84, .int .u8 70, .int .u8 1] 5)).alloc (.cells #[.slice (some ⟨w.heap.size + 1, 0, none⟩) 3 3, .bool false] 72)).heap.size = w.heap.size + 1 + 1 + 1 := by simp
  have HN := Aside0.mk (numbers_lit [prio, 0] HW.out HB0.out (by simp))
  rw [es3] at HN
  go_enter Try.func11, Try.ntmps11
  go_wp2_with fail
  refine HN.out.mono ?_
  clear HN es3
  rintro e w1 ⟨rfl, h1, b1, k1⟩
  have j1 := blk_kept HJ.out k1 (fun hh => hh.elim (fun e => by omega) (fun e => by have := e.2; omega))
  generalize hF : (fun k => k ≠ w.heap.size + 1 + 1 ∧ w.heap.size + 1 ≤ k) = F at *
  have hFw : ∀ k, F k → w.heap.size + 1 ≤ k := fun k hk => by rw [← hF] at hk; exact hk.2
  clear hF
  have H1 := Aside0.mk h1
  have B1 := Aside0.mk b1
  have J1 := Aside0.mk j1
  have c10 := (blk_cell j1 0).trans rfl
  have c11 := (blk_cell j1 1).trans rfl
  clear h1 b1 k1 j1 HW HJ HB HB0
  go_wp2_with fail
  go_loopw [23] (fun v23 wr => v23 = .int .i64 0 ∧ w1 = wr) (fun _ _ => 0)
  case atStart => exact ⟨rfl, rfl⟩
  case round =>
    obtain ⟨rfl, rfl⟩ := hrel
    go_wp2_with fail
    refine (numbers_lit [0] H1.out B1.out (by simp)).mono ?_
    rintro e w2 ⟨rfl, h2, b2, k2⟩
    have j2 := blk_kept J1.out k2 (fun hh => hh.elim (fun e => by omega) (fun e => by have := hFw _ e; omega))
    have H2 := Aside0.mk h2
    have B2 := Aside0.mk b2
    have J2 := Aside0.mk j2
    have d11 := (blk_cell j2 1).trans rfl
    have d12 := (blk_cell j2 2).trans rfl
    clear h2 b2 k2 j2 H1 B1 J1 c10 c11
    go_wp2_with fail
    go_loopw [54] (fun v54 wr => v54 = .int .i64 0 ∧ w2 = wr) (fun _ _ => 0)
    case atStart => exact ⟨rfl, rfl⟩
    case round =>
      obtain ⟨rfl, rfl⟩ := hrel
      go_wp2_with fail
      refine (list_calls l H2.out B2.out (Kd.C_kept_came (Kd.heap_int .i64) HC.out B2.out (fun k hk => hk.elim (fun e => by omega) (fun e => by have := hFw _ e; omega))) hl).mono ?_
      rintro e w3 ⟨rfl, h3, b3, k3⟩
      have H3 := Aside0.mk h3
      have B3 := Aside0.mk b3
      have g1 := h3.c1
      obtain ⟨A3, n3, g0⟩ := h3.c0
      clear h3 b3 k3 H2 B2 J2 d11 d12
      have ef : listF (numsB (numsB [84, 70, 1] [prio, 0]) [0]) (numsF (numsB [84, 70, 1] [prio, 0]) (numsF [84, 70, 1] false [prio, 0]) [0]) l = encF prio l := rfl
      rw [ef] at g1
      have EF := Aside0.mk ef
      clear ef
      cases hf : encF prio l with
      | true =>
        rw [hf] at g1
        go_wp2_with fail
        go_ret2
        exact ⟨B3.out, .inl ⟨hf, rfl⟩⟩
      | false =>
        rw [hf] at g1
        go_wp2_with fail
        go_ret2
        obtain ⟨v, q1, q2⟩ := H3.out.row
        have e0 := (blk_cell q1 0).trans rfl
        have ev : v = .slice A3 (listB (numsB (numsB [84, 70, 1] [prio, 0]) [0]) l).length n3 := Option.some.inj (e0.symm.trans g0)
        rw [ev] at q2
        exact ⟨B3.out, .inr ⟨hf, _, rfl, Kd.R_mono q2 (fun _ _ => trivial)⟩⟩

end Go.Proofs.Ytlballjigibphaa.Wr
