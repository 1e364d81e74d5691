/- The two deques side by side, nil or not: one contract a method, over one list each. -/
import Derived.Test.YtfnplpkplmhhnaaTp
namespace Go.Proofs.Ytfnplpkplmhhnaa.Both
open Go.RowKit Go.Proofs.YtfnplpkplmhhnaaW.PrintWords Go.Proofs.YtfnplpkplmhhnaaW.PrintLast Go.Proofs.YtfnplpkplmhhnaaW.PrintMore
open Go.Proofs.Ytfnplpkplmhhnaa.PDequeFollows
open Go.Proofs.Ytfnplpkplmhhnaa.Dq (Dq refV keep keep_length keep_snoc_yes keep_snoc_no)
open Go.Proofs.Ytfnplpkplmhhnaa.Rf (Rf)
open Go.Proofs.Ytfnplpkplmhhnaa.Tp
set_option linter.unusedVariables false

/-! ### Without and Same -/
theorem take_keep (job : Int) (l : List S32) (k : Nat) (x : S32) (hx : l[k]? = some x) :
    keep job (l.take (k + 1)) = if x.f0 = job then keep job (l.take k) else keep job (l.take k) ++ [x] := by
  rw [List.take_add_one, hx]
  show keep job (l.take k ++ [x]) = _
  by_cases h : x.f0 = job
  · rw [if_pos h, keep_snoc_no _ _ _ (by simpa using h)]
  · rw [if_neg h, keep_snoc_yes _ _ _ (by simpa using h)]

theorem rd_of (l : List S32) (k : Nat) (x : S32) (hx : l[k]? = some x) : rd_T32 l (k : Int) = x := by simp [rd_T32, List.getD_eq_getElem?_getD, hx]

theorem without_l (job : Int) (l : List S32) (hl : l.length ≤ 1000000) : ∀ (d q k : Nat), k + d = l.length → d < q → tilefarmref23_Without.l0 q l job (keep job (l.take k)) (k : Int) = some (keep job l) := by
  intro d
  induction d with
  | zero =>
    intro q k hk hq
    obtain ⟨q, rfl⟩ : ∃ m, q = m + 1 := ⟨q - 1, by omega⟩
    simp only [tilefarmref23_Without.l0]
    rw [if_neg (by omega), List.take_of_length_le (by omega)]
  | succ d ih =>
    intro q k hk hq
    obtain ⟨q, rfl⟩ : ∃ m, q = m + 1 := ⟨q - 1, by omega⟩
    obtain ⟨x, hx⟩ : ∃ x, l[k]? = some x := ⟨_, List.getElem?_eq_getElem (by omega)⟩
    have hw : wrap64 ((k : Int) + 1) = ((k + 1 : Nat) : Int) := by rw [wrap_of _ ⟨by omega, by omega⟩]; omega
    have ih := ih q (k + 1) (by omega) (by omega)
    have hkl : (keep job (l.take k)).length ≤ k := Nat.le_trans (keep_length _ _) (List.length_take_le _ _)
    simp only [tilefarmref23_Without.l0]
    rw [if_pos (by omega), if_pos (by omega), rd_of l k x hx, hw]
    rw [take_keep job l k x hx] at ih
    by_cases h : x.f0 = job
    · rw [if_pos h] at ih ⊢; exact ih
    · rw [if_neg h] at ih ⊢; rw [if_pos (by omega)]; exact ih

theorem without_is (job : Int) (l : List S32) (hl : l.length ≤ 1000000) : tilefarmref23_Without.f (l.length + 1) l job = some (keep job l) := by
  unfold tilefarmref23_Without.f
  have h := without_l job l hl l.length (l.length + 1) 0 (by omega) (by omega)
  exact h

theorem same_l (l : List S32) (hl : l.length ≤ 1000000) : ∀ (d q k : Nat), k + d = l.length → d < q → tilefarmref23_Same.l0 q l l (k : Int) = some true := by
  intro d
  induction d with
  | zero =>
    intro q k hk hq
    obtain ⟨q, rfl⟩ : ∃ m, q = m + 1 := ⟨q - 1, by omega⟩
    simp only [tilefarmref23_Same.l0]
    rw [if_neg (by omega)]
  | succ d ih =>
    intro q k hk hq
    obtain ⟨q, rfl⟩ : ∃ m, q = m + 1 := ⟨q - 1, by omega⟩
    have hw : wrap64 ((k : Int) + 1) = ((k + 1 : Nat) : Int) := by rw [wrap_of _ ⟨by omega, by omega⟩]; omega
    have ih := ih q (k + 1) (by omega) (by omega)
    simp only [tilefarmref23_Same.l0]
    rw [if_pos (by omega), if_pos (by omega), if_pos (by omega), if_neg (by simp), hw]
    exact ih

theorem same_is (l : List S32) (hl : l.length ≤ 1000000) : tilefarmref23_Same.f (l.length + 1) l l = some true := by
  unfold tilefarmref23_Same.f
  rw [if_pos rfl]
  exact same_l l hl l.length (l.length + 1) 0 (by omega) (by omega)

/-- Two lists in memory that hold the same tasks are told the same. -/
theorem same_calls {w : World} {b1 b2 : Nat} {o1 o2 : Nat → Prop} {v1 v2 : Value} {l : List S32} (h1 : Kd.R k32 32 w b1 o1 v1 l) (h2 : Kd.R k32 32 w b2 o2 v2 l) (hl : l.length ≤ 1000000) :
    Calls Try.prog 22 #[v1, v2] w fun e w' => e = .returned (.bool true) ∧ Drawn0 w w' := by
  obtain ⟨A1, c1, rfl, hc1, r1⟩ := Kd.R_reads h1
  obtain ⟨A2, c2, rfl, hc2, r2⟩ := Kd.R_reads h2
  exact tilefarmref23_Same.calls (l.length + 1) A1 c1 l A2 c2 l true w r1 hc1 r2 hc2 (same_is l hl)

set_option maxHeartbeats 1000000 in
set_option maxRecDepth 100000 in
theorem ref_remove {w0 w : World} {p : Nat} {c : Int} {F : Nat → Prop} {l : List S32} (job : Int) (h : Rf w0 w p c F l) (hB : Below w0.heap.size w0 w) (hl : l.length ≤ 256) :
    Calls Try.prog 21 #[.pointer (some ⟨p, 0, none⟩), .int .i64 job] w fun e w' => e = .returned (.int .i64 (l.length - (keep job l).length)) ∧ Rf w0 w' p c F (keep job l) ∧ Below w0.heap.size w0 w' ∧ Kept w w' (fun k => k = p ∨ F k) := by
  obtain ⟨v, h1, h2⟩ := h.row
  obtain ⟨A, n, rfl, hn, r⟩ := Kd.R_reads h2
  have hp := blk_lt h1
  have c1 := (blk_cell h1 1).trans rfl
  have H1 := Aside0.mk h1
  have RR := Aside0.mk r
  clear h1 h2 r
  have hkl := keep_length job l
  have HW := Aside0.mk (without_is job l (by omega))
  go_enter Try.func21, Try.ntmps21
  go_wp2_with fail
  refine (tilefarmref23_Without.calls (l.length + 1) A n l job (keep job l) _ RR.out hn HW.out).mono ?_
  rintro e w1 ⟨v, rfl, hr, hb⟩
  obtain ⟨A1, n1, rfl⟩ := Kd.R_slice hr
  have o1 := blk_below H1.out hb
  have d1 := (blk_cell o1 1).trans rfl
  have g1 := blk_frozen o1 1
  have hr2 : Kd.R k32 32 w1 w0.heap.size F (.slice A1 (keep job l).length n1) (keep job l) := Kd.R_lower (Kd.R_mono (Kd.R_bound hr) (fun k hk => h.fresh k hk.2.1)) hB.size
  obtain ⟨e1, e2, e3⟩ := Rf.store_row h.pw h.out o1 hr2 (below_then hB hB.size hb) (Kept.of_below hb _) (fun k hk => h.fresh k (Nat.le_trans hb.size hk))
  have E1 := Aside0.mk e1
  have E2 := Aside0.mk e2
  have E3 := Aside0.mk e3
  clear e1 e2 e3 hr2 o1 hr
  go_wp2_with fail
  go_ret
  exact ⟨rfl, E1.out, E2.out, E3.out⟩

end Go.Proofs.Ytfnplpkplmhhnaa.Both
