/- Remove and New of the program's deque, walked. -/
import Derived.Test.YtfnplpkplmhhnaaDq3
namespace Go.Proofs.Ytfnplpkplmhhnaa.Dq
open Go.RowKit Go.Proofs.YtfnplpkplmhhnaaW.PrintWords Go.Proofs.YtfnplpkplmhhnaaW.PrintLast Go.Proofs.YtfnplpkplmhhnaaW.PrintMore
open Go.Proofs.Ytfnplpkplmhhnaa.PDequeFollows (S32 k32 info32 k32_mkM rd_T32 at_T32 z32)
set_option linter.unusedVariables false

theorem make_run (c : Nat) (hc : c ≤ 256) (W : World) : (Instr.makeSlice 43 (.int .i64 (c : Int)) (.int .i64 (c : Int))).run Try.prog W = .ok (.slice (some ⟨W.heap.size, 0, none⟩) c c) (W.alloc (.cells (madeCells #[.int .i64 0, .int .i64 0] (c * 2)) 32)) := by
  obtain ⟨i0, hi, hz0, hz1, hz2⟩ := info_parts info32
  have h := run_make (P := Try.prog) W 43 32 i0 _ Try.underlying43 hi hz0 .i64 .i64 (c : Int) (c : Int) (by omega) (by omega) (by rw [hz2]; omega) (by omega)
  rw [hz1, Int.toNat_natCast] at h
  exact h

set_option maxHeartbeats 1000000 in
set_option maxRecDepth 100000 in
theorem new_bad (c : Int) (h : c < 1 ∨ 256 < c) (w : World) : Calls Try.prog 8 #[.int .i64 c] w fun e w' => e = .returned (.tuple #[.pointer none, .int .i64 2]) ∧ w = w' := by
  by_cases h1 : c < 1
  · go_enter Try.func8, Try.ntmps8
    go_wp2_with fail
    go_ret2
    exact ⟨rfl, rfl⟩
  · have h2 : 256 < c := by omega
    have h3 : decide (c < 1) = false := decide_eq_false h1
    go_enter Try.func8, Try.ntmps8
    go_wp2_with fail
    go_ret2
    exact ⟨rfl, rfl⟩

set_option maxHeartbeats 1000000 in
set_option maxRecDepth 100000 in
theorem new_ok {w0 w : World} (c : Nat) (h1 : 1 ≤ c) (h2 : c ≤ 256) (hB : Below w0.heap.size w0 w) : Calls Try.prog 8 #[.int .i64 (c : Int)] w fun e w' =>
    ∃ p g, e = .returned (.tuple #[.pointer (some ⟨p, 0, none⟩), .int .i64 0]) ∧ Dq w0 w' p g c 0 [] ∧ w.heap.size ≤ p ∧ w.heap.size ≤ g ∧ Below w.heap.size w w' := by
  have hmk := make_run c h2
  have h3 : decide ((c : Int) < 1) = false := decide_eq_false (by omega)
  have h4 : decide ((c : Int) > 256) = false := decide_eq_false (by omega)
  go_enter Try.func8, Try.ntmps8
  go_wp2_with fail
  go_ret2
  have hs : (w.alloc (.cells (madeCells #[.int .i64 0, .int .i64 0] (c * 2)) 32)).heap.size = w.heap.size + 1 := by simp
  have o1 := blk_new (w.alloc (.cells (madeCells #[.int .i64 0, .int .i64 0] (c * 2)) 32)) (.cells #[.slice (some ⟨w.heap.size, 0, none⟩) c c, .int .i64 0, .int .i64 0] 46)
  rw [hs] at o1
  have o2 := blk_alloc (blk_new w (.cells (madeCells #[.int .i64 0, .int .i64 0] (c * 2)) 32)) (.cells #[.slice (some ⟨w.heap.size, 0, none⟩) c c, .int .i64 0, .int .i64 0] 46)
  have hw := hB.size
  exact ⟨_, _, rfl, ⟨o1, ⟨_, o2, size_madeCells _ _, fun i y hi => by simp at hi⟩, by omega, by omega, by omega, ⟨h1, h2⟩, by omega, by simp⟩, by omega, by omega, below_alloc (below_alloc (Below.refl _ _) _) _⟩

theorem Dq.below {w0 w w1 : World} {p g c t : Nat} {l : List S32} (h : Dq w0 w p g c t l) (hb : Below w.heap.size w w1) : Dq w0 w1 p g c t l :=
  h.kept (Kept.of_below hb (fun _ => False)) id id

/-- The cells of element j of a row of tasks. -/
theorem row_at {w : World} {base gv n cap : Nat} {ok : Nat → Prop} {l : List S32} (h : Kd.R k32 32 w base ok (.slice (some ⟨gv, 0, none⟩) n cap) l) (j : Nat) (x : S32) (hx : l[j]? = some x) :
    w.cell? ⟨gv, j * 2, none⟩ = some (.int .i64 x.f0) ∧ w.cell? ⟨gv, j * 2 + 1, none⟩ = some (.int .i64 x.f1) := by
  have hj := (List.getElem?_eq_some_iff.1 hx).1
  obtain ⟨ad, he, h0, h1⟩ := at_T32 (Kd.R_reads' h).2.2 (j : Int) (by omega) (by omega)
  injection he with he
  subst he
  have hr : rd_T32 l (j : Int) = x := by simp [rd_T32, List.getD_eq_getElem?_getD, hx]
  rw [hr, Int.toNat_natCast, add_plain] at h0 h1
  exact ⟨h0, h1⟩

def keep (job : Int) (l : List S32) : List S32 := l.filter fun x => x.f0 != job

theorem keep_length (job : Int) (l : List S32) : (keep job l).length ≤ l.length := List.length_filter_le _ _
theorem keep_snoc_yes (job : Int) (l : List S32) (x : S32) (h : (x.f0 != job) = true) : keep job (l ++ [x]) = keep job l ++ [x] := by
  unfold keep; rw [List.filter_append]; simp [h]
theorem keep_snoc_no (job : Int) (l : List S32) (x : S32) (h : (x.f0 != job) = false) : keep job (l ++ [x]) = keep job l := by
  unfold keep; rw [List.filter_append]; simp [h]

set_option maxHeartbeats 1000000 in
set_option maxRecDepth 100000 in
theorem remove_nil (job : Int) (w : World) : Calls Try.prog 20 #[.pointer none, .int .i64 job] w fun e w' => e = .returned (.int .i64 0) ∧ w = w' := by
  go_enter Try.func20, Try.ntmps20
  go_wp2_with (go_at_call 23; refine (drain_nil _).mono ?_; rintro e w' ⟨rfl, rfl⟩)
  go_loop [7, 12] (fun v i => i = .int .i64 0) (fun _ _ => 0)
  case atStart => rfl
  case round =>
    subst hrel
    go_wp2_with (go_at_call 13; refine (len_nil _).mono ?_; rintro e w' ⟨rfl, rfl⟩)
    go_ret
    exact ⟨rfl, rfl⟩

set_option maxHeartbeats 1000000 in
set_option maxRecDepth 100000 in
theorem remove_calls {w0 w : World} {p g c t : Nat} {l : List S32} (job : Int) (h : Dq w0 w p g c t l) (hB : Below w0.heap.size w0 w) :
    Calls Try.prog 20 #[.pointer (some ⟨p, 0, none⟩), .int .i64 job] w fun e w' => e = .returned (.int .i64 (l.length - (keep job l).length)) ∧ Dq w0 w' p g c 0 (keep job l) ∧ Below w0.heap.size w0 w' ∧ Kept w w' (fun k => k = p ∨ k = g) := by
  have hp := blk_lt h.obj
  have HG : Aside0 (g < w.heap.size) := by obtain ⟨cur, r1, _⟩ := h.ring; exact ⟨blk_lt r1⟩
  have hl := h.len
  obtain ⟨hc, hc'⟩ := h.cap
  have H := Aside0.mk h
  clear h
  have hkl := keep_length job l
  have HP := Aside0.mk hp
  go_enter Try.func20, Try.ntmps20
  go_wp2_with fail
  refine (drain_calls H.out hB).mono ?_
  rintro e w1 ⟨v, rfl, hr, hd, hb, hk⟩
  obtain ⟨A, cap, rfl⟩ := Kd.R_slice hr
  have HR := Aside0.mk hr
  have HD := Aside0.mk hd
  have HB1 := Aside0.mk hb
  have HK := Aside0.mk hk
  clear hr hd hb hk hp
  go_wp2_with fail
  go_loopw [7, 12] (fun _ i wr => ∃ k : Nat, k ≤ l.length ∧ i = .int .i64 k ∧ Aside0 (Kd.R k32 32 wr w.heap.size (fun k => k ≠ p ∧ k ≠ g) (.slice A l.length cap) l) ∧ Aside0 (Dq w0 wr p g c 0 (keep job (l.take k))) ∧ Aside0 (Below w0.heap.size w0 wr) ∧ Aside0 (Kept w wr (fun k => k = p ∨ k = g))) (fun _ i _ => l.length - (intOf i).toNat)
  case atStart => exact ⟨0, by omega, rfl, HR, HD, HB1, HK⟩
  case round =>
    clear HR HD HB1 HK
    obtain ⟨k, hk, rfl, HR, HD, HB1, HK⟩ := hrel
    by_cases hlt : k < l.length
    · obtain ⟨gv, cap', hv, _, hgv, _⟩ := Kd.R_form HR.out (by omega)
      injection hv with hv1 _ hv3
      subst hv1 hv3
      obtain ⟨x, hx⟩ : ∃ x, l[k]? = some x := ⟨_, List.getElem?_eq_getElem hlt⟩
      obtain ⟨x0, x1⟩ := row_at HR.out k x hx
      have HT : Aside0 (l.take (k + 1) = l.take k ++ [x]) := ⟨by rw [List.take_add_one, hx]; rfl⟩
      have HX := Aside0.mk hx
      clear hx
      have hkk : (keep job (l.take k)).length ≤ k := Nat.le_trans (keep_length _ _) (List.length_take_le _ _)
      have bn : Below wr.heap.size wr (wr.alloc (.cells #[.int .i64 x.f0, .int .i64 x.f1] 32)) := below_alloc (Below.refl _ _) _
      have BN := Aside0.mk bn
      clear bn
      have hrk : Kept w (wr.alloc (.cells #[.int .i64 x.f0, .int .i64 x.f1] 32)) (fun k => k = p ∨ k = g) := HK.out.alloc _
      have HRK := Aside0.mk hrk
      clear hrk
      by_cases hj : (x.f0 != job) = true
      · go_wp2_with fail
        refine (push_ok x (HD.out.below BN.out) (below_then HB1.out HB1.out.size BN.out) (by omega)).mono ?_
        rintro e w2 ⟨rfl, d2, b2, k2⟩
        go_wp2_with fail
        go_roundw
        case rel =>
          refine ⟨k + 1, by omega, by go_num, ⟨?_⟩, ⟨?_⟩, ⟨b2⟩, ⟨?_⟩⟩
          · exact Kd.R_kept (Kd.R_below HR.out BN.out) k2 (fun b hb hs => hs.elim hb.1 hb.2)
          · rw [HT.out, keep_snoc_yes _ _ _ hj]; exact d2
          · exact HRK.out.then_ k2 (fun b hs => .inl hs)
        case measure => simp [intOf]; omega
      · have hj : (x.f0 != job) = false := by simpa using hj
        go_wp2_with fail
        go_roundw
        case rel =>
          refine ⟨k + 1, by omega, by go_num, ⟨Kd.R_below HR.out BN.out⟩, ⟨?_⟩, ⟨below_then HB1.out HB1.out.size BN.out⟩, HRK⟩
          rw [HT.out, keep_snoc_no _ _ _ hj]; exact HD.out.below BN.out
        case measure => simp [intOf]; omega
    · obtain rfl : k = l.length := by omega
      have hd := HD.out
      rw [List.take_length] at hd
      have h2 := hd.c2
      go_wp2_with (go_at_call 13; refine (len_calls p _ _ h2).mono ?_; rintro e w' ⟨rfl, rfl⟩)
      go_ret
      exact ⟨rfl, hd, HB1.out, HK.out⟩

end Go.Proofs.Ytfnplpkplmhhnaa.Dq
