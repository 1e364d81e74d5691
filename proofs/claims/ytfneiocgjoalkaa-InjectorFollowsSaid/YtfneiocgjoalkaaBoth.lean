/- Without and Same told plainly; Remove of the reference's injector, walked. -/
import Derived.Test.YtfneiocgjoalkaaRf2
import Derived.Test.YtfneiocgjoalkaaTp
namespace Go.Proofs.Ytfneiocgjoalkaa.Both
open Go.RowKit Go.Proofs.YtfneiocgjoalkaaW.PrintWords Go.Proofs.YtfneiocgjoalkaaW.PrintLast Go.Proofs.YtfneiocgjoalkaaW.PrintMore
open Go.Proofs.Ytfneiocgjoalkaa.PInjectorFollows
open Go.Proofs.Ytfneiocgjoalkaa.Ij Go.Proofs.Ytfneiocgjoalkaa.Rm Go.Proofs.Ytfneiocgjoalkaa.Rf
open Go.Proofs.Ytfneiocgjoalkaa.Tp (wrap_of)
set_option linter.unusedVariables false

/-! ### Without and Same -/
theorem take_keep (job : Int) (l : List S33) (k : Nat) (x : S33) (hx : l[k]? = some x) :
    keep job (l.take (k + 1)) = if x.f0 = job then keep job (l.take k) else keep job (l.take k) ++ [x] := by
  rw [List.take_add_one, hx]
  show keep job (l.take k ++ [x]) = _
  by_cases h : x.f0 = job
  · rw [if_pos h, keep_snoc_no _ _ _ (by simpa using h)]
  · rw [if_neg h, keep_snoc_yes _ _ _ (by simpa using h)]

theorem rd_of (l : List S33) (k : Nat) (x : S33) (hx : l[k]? = some x) : rd_T33 l (k : Int) = x := by simp [rd_T33, List.getD_eq_getElem?_getD, hx]

theorem without_l (job : Int) (l : List S33) (hl : l.length ≤ 1000000) : ∀ (d q k : Nat), k + d = l.length → d < q → tilefarmref23_Without.l0 q l job (keep job (l.take k)) (k : Int) = some (keep job l) := by
  intro d
  induction d with
  | zero =>
    intro q k hk hq
    obtain ⟨q, rfl⟩ : ∃ m, q = m + 1 := ⟨q - 1, by omega⟩
    simp only [tilefarmref23_Without.l0]
    rw [if_neg (by omega), List.take_of_length_le (by omega)]
  | succ d ih =>
    intro q k hk hq
    obtain ⟨q, rfl⟩ : ∃ m, q = m + 1 := ⟨q - 1, by omega⟩
    obtain ⟨x, hx⟩ : ∃ x, l[k]? = some x := ⟨_, List.getElem?_eq_getElem (by omega)⟩
    have hw : wrap64 ((k : Int) + 1) = ((k + 1 : Nat) : Int) := by rw [wrap_of _ ⟨by omega, by omega⟩]; omega
    have ih := ih q (k + 1) (by omega) (by omega)
    have hkl : (keep job (l.take k)).length ≤ k := Nat.le_trans (keep_length _ _) (List.length_take_le _ _)
    simp only [tilefarmref23_Without.l0]
    rw [if_pos (by omega), if_pos (by omega), rd_of l k x hx, hw]
    rw [take_keep job l k x hx] at ih
    by_cases h : x.f0 = job
    · rw [if_pos h] at ih ⊢; exact ih
    · rw [if_neg h] at ih ⊢; rw [if_pos (by omega)]; exact ih

theorem without_is (job : Int) (l : List S33) (hl : l.length ≤ 1000000) : tilefarmref23_Without.f (l.length + 1) l job = some (keep job l) := by
  unfold tilefarmref23_Without.f
  have h := without_l job l hl l.length (l.length + 1) 0 (by omega) (by omega)
  exact h

theorem same_l (l : List S33) (hl : l.length ≤ 1000000) : ∀ (d q k : Nat), k + d = l.length → d < q → tilefarmref23_Same.l0 q l l (k : Int) = some true := by
  intro d
  induction d with
  | zero =>
    intro q k hk hq
    obtain ⟨q, rfl⟩ : ∃ m, q = m + 1 := ⟨q - 1, by omega⟩
    simp only [tilefarmref23_Same.l0]
    rw [if_neg (by omega)]
  | succ d ih =>
    intro q k hk hq
    obtain ⟨q, rfl⟩ : ∃ m, q = m + 1 := ⟨q - 1, by omega⟩
    have hw : wrap64 ((k : Int) + 1) = ((k + 1 : Nat) : Int) := by rw [wrap_of _ ⟨by omega, by omega⟩]; omega
    have ih := ih q (k + 1) (by omega) (by omega)
    simp only [tilefarmref23_Same.l0]
    rw [if_pos (by omega), if_pos (by omega), if_pos (by omega), if_neg (by simp), hw]
    exact ih

theorem same_is (l : List S33) (hl : l.length ≤ 1000000) : tilefarmref23_Same.f (l.length + 1) l l = some true := by
  unfold tilefarmref23_Same.f
  rw [if_pos rfl]
  exact same_l l hl l.length (l.length + 1) 0 (by omega) (by omega)

/-- Two lists in memory that hold the same tasks are told the same. -/
theorem same_calls {w : World} {b1 b2 : Nat} {o1 o2 : Nat → Prop} {v1 v2 : Value} {l : List S33} (h1 : Kd.R k33 33 w b1 o1 v1 l) (h2 : Kd.R k33 33 w b2 o2 v2 l) (hl : l.length ≤ 1000000) :
    Calls Try.prog 21 #[v1, v2] w fun e w' => e = .returned (.bool true) ∧ Drawn0 w w' := by
  obtain ⟨A1, c1, rfl, hc1, r1⟩ := Kd.R_reads h1
  obtain ⟨A2, c2, rfl, hc2, r2⟩ := Kd.R_reads h2
  exact tilefarmref23_Same.calls (l.length + 1) A1 c1 l A2 c2 l true w r1 hc1 r2 hc2 (same_is l hl)

set_option maxHeartbeats 1000000 in
set_option maxRecDepth 100000 in
theorem removeb_nil (job : Int) (w : World) : Calls Try.prog 19 #[.pointer none, .int .i64 job] w fun e w' => e = .returned (.int .i64 0) ∧ w = w' := by
  go_enter Try.func19, Try.ntmps19
  go_wp2_with fail
  refine (lenb_nil w).mono ?_
  rintro e w' ⟨rfl, rfl⟩
  go_wp2_with fail
  go_loopw [6] (fun v6 wr => v6 = .int .i64 0 ∧ w = wr) (fun _ _ => 0)
  case atStart => exact ⟨rfl, rfl⟩
  case round =>
    obtain ⟨rfl, rfl⟩ := hrel
    go_wp2_with fail
    refine (lenb_nil w).mono ?_
    rintro e w' ⟨rfl, rfl⟩
    go_wp2_with fail
    go_ret
    exact ⟨rfl, rfl⟩

set_option maxHeartbeats 2000000 in
set_option maxRecDepth 100000 in
theorem removeb_calls {w0 w : World} {p : Nat} {c : Int} {F : Nat → Prop} {L : Nat → List S33} (job : Int) (h : Ij 55 w0 w p c F L) (hB : Below w0.heap.size w0 w) (ht : tot L ≤ 1000000) :
    Calls Try.prog 19 #[.pointer (some ⟨p, 0, none⟩), .int .i64 job] w fun e w' => e = .returned (.int .i64 ((tot L : Int) - (tot (keepL job L) : Int))) ∧ Ij 55 w0 w' p c F (keepL job L) ∧ Below w0.heap.size w0 w' ∧ Kept w w' (fun k => k = p ∨ F k) := by
  obtain ⟨vs, q1, q2, q3⟩ := h.row
  have V1 : Aside0 (IjV 55 w0 w p c F vs L) := ⟨⟨q1, q2, q3, h.pw, h.out, h.fresh⟩⟩
  have H1 := Aside0.mk h
  have B1 := Aside0.mk hB
  have K1 : Aside0 (Kept w w (fun k => k = p ∨ F k)) := ⟨Kept.refl _ _⟩
  clear h q1 q2 q3 hB
  go_enter Try.func19, Try.ntmps19
  go_wp2_with fail
  refine (lenb_calls H1.out ht).mono ?_
  rintro e wb ⟨rfl, rfl⟩
  clear H1
  go_wp2_with fail
  go_loopw [6] (fun v6 wr => ∃ (k : Nat) (vc : Nat → Value) (Lc : Nat → List S33), k ≤ 4 ∧ v6 = .int .i64 (k : Int) ∧ Aside0 (IjV 55 w0 wr p c F vc Lc) ∧ Aside0 (∀ b, b < 4 → Lc b = if b < k then keep job (L b) else L b) ∧ Aside0 (Below w0.heap.size w0 wr) ∧ Aside0 (Kept w wr (fun k => k = p ∨ F k))) (fun i _ => 4 - (intOf i).toNat)
  case atStart => exact ⟨0, vs, L, by omega, rfl, V1, ⟨fun b _ => by simp⟩, B1, K1⟩
  case round =>
    clear V1 B1 K1
    obtain ⟨k, vc, Lc, hk, rfl, HV, HL, HB, HK⟩ := hrel
    by_cases hlt : k < 4
    · obtain ⟨A, n, ev, _⟩ := Kd.Q_slice (HV.out.rows k hlt)
      have hC := Kd.Q_reads' (by have := HV.out.rows k hlt; rw [ev] at this; exact this)
      have elk : Lc k = L k := by rw [HL.out k hlt, if_neg (by omega)]
      have hll := tot_le L k hlt
      rw [elk] at hC ev
      have HC : Aside0 (∀ W, Below wr.heap.size wr W → Calls Try.prog 29 #[.slice A (L k).length n, .int .i64 job] W fun e w' => ∃ v, e = .returned v ∧ Kd.R k33 33 w' W.heap.size (fun _ => True) v (keep job (L k)) ∧ Below W.heap.size W w') := ⟨fun W hW =>
        tilefarmref23_Without.calls ((L k).length + 1) A n (L k) job (keep job (L k)) W (Kd.C_below hC.2.2 hW) hC.2.1 (without_is job (L k) (by omega))⟩
      have x0 := (blk_cell HV.out.heap (1 + k)).trans (arr5 _ vc k hlt)
      rw [ev] at x0
      have y0 := blk_frozen HV.out.heap (1 + k)
      have i0 : (0 : Int) ≤ (k : Int) := by omega
      have i1 : (k : Int) < 4 := by omega
      have hpl := blk_lt HV.out.heap
      clear hC elk ev
      go_wp2_with fail
      go_region_with (first
          | (go_at_call 29; refine (HC.out _ (below_drew (Below.refl _ _))).mono ?_; rintro e wd ⟨v, rfl, r, bd⟩; obtain ⟨A2, n2, rfl⟩ := Kd.R_slice r; have hbd := below_then (below_drew (Below.refl wr.heap.size wr)) (Nat.le_refl _) bd; have xa := (hbd.cell (p := ⟨p, 1 + k, none⟩) hpl).trans x0; have ya := (hbd.frozen (p := ⟨p, 1 + k, none⟩) hpl).trans y0; have HR := Aside0.mk r; have HBD := Aside0.mk hbd; clear r bd hbd))
      all_goals
        try go_wp2_with fail
        obtain ⟨e1, e2, e3⟩ := HV.out.put HB.out hlt HBD.out HR.out
        go_roundw
        case rel =>
          refine ⟨k + 1, _, _, by omega, by go_num, ⟨e1⟩, ⟨fun b hb => ?_⟩, ⟨e2⟩, ⟨HK.out.then_ e3 (fun q hq => .inl hq)⟩⟩
          by_cases e : b = k
          · subst e; rw [upd_self, if_pos (by omega)]
          · rw [upd_ne _ _ e, HL.out b hb]
            by_cases hbk : b < k
            · rw [if_pos hbk, if_pos (by omega)]
            · rw [if_neg hbk, if_neg (by omega)]
        case measure => simp [intOf]; omega
    · obtain rfl : k = 4 := by omega
      have hij := HV.out.ij (L' := keepL job L) (fun b hb => by rw [HL.out b hb, if_pos hb]; rfl)
      have HI := Aside0.mk hij
      have htk := tot_keep job L
      clear hij
      go_wp2_with fail
      refine (lenb_calls HI.out (by omega)).mono ?_
      rintro e wb ⟨rfl, rfl⟩
      go_wp2_with fail
      go_ret
      exact ⟨rfl, HI.out, HB.out, HK.out⟩

end Go.Proofs.Ytfneiocgjoalkaa.Both
