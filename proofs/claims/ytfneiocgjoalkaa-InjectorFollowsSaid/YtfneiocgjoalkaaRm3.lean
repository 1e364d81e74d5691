/- Remove of the program's injector, walked. -/
import Derived.Test.YtfneiocgjoalkaaRm2
import Derived.Deep.RegionWith
namespace Go.Proofs.Ytfneiocgjoalkaa.Rm
open Go.RowKit Go.Proofs.YtfneiocgjoalkaaW.PrintWords Go.Proofs.YtfneiocgjoalkaaW.PrintLast Go.Proofs.YtfneiocgjoalkaaW.PrintMore
open Go.Proofs.Ytfneiocgjoalkaa.PInjectorFollows
open Go.Proofs.Ytfneiocgjoalkaa.Ij
set_option linter.unusedVariables false

/-- The state with the bands' values named. -/
structure IjV (T : TypeId) (w0 w : World) (p : Nat) (c : Int) (F : Nat → Prop) (vs : Nat → Value) (L : Nat → List S33) : Prop where
  heap : w.heap[p]? = some (.cells #[.int .i64 c, vs 0, vs 1, vs 2, vs 3] T (0, 0))
  rows : ∀ b, b < 4 → Kd.Q k33 33 w w0.heap.size F (vs b) (L b)
  sep : ∀ i j, i < 4 → j < 4 → i ≠ j → Sep (vs i) (vs j)
  pw : w0.heap.size ≤ p
  out : ¬ F p
  fresh : ∀ k, w.heap.size ≤ k → F k

section
variable {T : TypeId} {w0 w W : World} {p b : Nat} {c : Int} {F : Nat → Prop} {vs : Nat → Value} {L L' : Nat → List S33} {v : Value} {xs : List S33}
theorem IjV.ij (h : IjV T w0 w p c F vs L) (hL : ∀ b, b < 4 → L b = L' b) : Ij T w0 w p c F L' := ⟨⟨vs, h.heap, fun b hb => by rw [← hL b hb]; exact h.rows b hb, h.sep⟩, h.pw, h.out, h.fresh⟩
theorem IjV.below (h : IjV T w0 w p c F vs L) (hb : Below w.heap.size w W) : IjV T w0 W p c F vs L := ⟨blk_below h.heap hb, fun b hb4 => Kd.Q_below (h.rows b hb4) hb, h.sep, h.pw, h.out, fun k hk => h.fresh k (Nat.le_trans hb.size hk)⟩
/-- A band gets a row that was made behind the state. -/
theorem IjV.put (h : IjV T w0 w p c F vs L) (hB : Below w0.heap.size w0 w) (hb4 : b < 4) (hW : Below w.heap.size w W) (r : Kd.R k33 33 W w.heap.size (fun _ => True) v xs) :
    IjV T w0 (W.setCell ⟨p, 1 + b, none⟩ v) p c F (upd vs b v) (upd L b xs) ∧ Below w0.heap.size w0 (W.setCell ⟨p, 1 + b, none⟩ v) ∧ Kept w (W.setCell ⟨p, 1 + b, none⟩ v) (fun k => k = p ∨ F k) := by
  have hq : Kd.Q k33 33 W w0.heap.size F v xs := Kd.Q_of_R (Kd.R_lower (Kd.R_mono (Kd.R_bound r) (fun k hk => h.fresh k hk.2.1)) hB.size)
  have kW : Kept w W (fun k => k = p ∨ F k) := Kept.of_below hW _
  have far : ∀ {u : Value} {ys : List S33}, Kd.Q k33 33 W w0.heap.size F u ys → Kd.Q k33 33 (W.setCell ⟨p, 1 + b, none⟩ v) w0.heap.size F u ys := fun hh =>
    Kd.Q_far hh (p := ⟨p, 1 + b, none⟩) (fun k hk e => h.out (by rw [← show k = p from e]; exact hk)) _
  have hvs : ∀ j, j < 4 → Sep v (vs j) := fun j hj k e1 e2 => by
    have h1 := Kd.R_base r k e1
    have h2 := Kd.Q_lt (h.rows j hj) k e2.symm
    omega
  refine ⟨⟨?_, fun j hj => ?_, fun i j hi hj hij => ?_, h.pw, h.out, fun k hk => h.fresh k (Nat.le_trans hW.size (by simpa [World.setCell] using hk))⟩, (below_then hB hB.size hW).setCell (by exact h.pw) _, kW.setCell (.inl (.inl rfl)) _⟩
  · have := blk_set (blk_below h.heap hW) (1 + b) v
    rwa [set_band _ _ _ hb4] at this
  · by_cases e : j = b
    · subst e; rw [upd_self, upd_self]; exact far hq
    · rw [upd_ne _ _ e, upd_ne _ _ e]; exact far (Kd.Q_below (h.rows j hj) hW)
  · by_cases e : i = b
    · subst e; rw [upd_self, upd_ne _ _ (Ne.symm hij)]; exact hvs j hj
    · rw [upd_ne _ _ e]
      by_cases e2 : j = b
      · subst e2; rw [upd_self]; exact (hvs i hi).symm
      · rw [upd_ne _ _ e2]; exact h.sep i j hi hj hij
end

def keepL (job : Int) (L : Nat → List S33) : Nat → List S33 := fun b => keep job (L b)
theorem tot_congr {L L' : Nat → List S33} (h : ∀ b, b < 4 → L b = L' b) : tot L = tot L' := by
  unfold tot
  rw [h 0 (by omega), h 1 (by omega), h 2 (by omega), h 3 (by omega)]
theorem tot_keep (job : Int) (L : Nat → List S33) : tot (keepL job L) ≤ tot L := by
  have h0 := keep_length job (L 0)
  have h1 := keep_length job (L 1)
  have h2 := keep_length job (L 2)
  have h3 := keep_length job (L 3)
  unfold tot keepL
  omega

theorem idx_any (vs : Nat → Value) (k : Nat) (hk : k < 4) (w : World) : Sem.run Try.prog (Instr.index 47 (.agg #[vs 0, vs 1, vs 2, vs 3]) (.int .i64 (k : Int))) w = .ok (vs k) w := by
  match k, hk with
  | 0, _ => exact idx0 _ _ _ _ w
  | 1, _ => exact idx1 _ _ _ _ w
  | 2, _ => exact idx2 _ _ _ _ w
  | 3, _ => exact idx3 _ _ _ _ w

set_option maxHeartbeats 2000000 in
set_option maxRecDepth 100000 in
theorem remove_calls {w0 w : World} {p : Nat} {c : Int} {F : Nat → Prop} {L : Nat → List S33} (job : Int) (h : Ij 49 w0 w p c F L) (hB : Below w0.heap.size w0 w) (ht : tot L ≤ 1000000) :
    Calls Try.prog 18 #[.pointer (some ⟨p, 0, none⟩), .int .i64 job] w fun e w' => e = .returned (.int .i64 ((tot L : Int) - (tot (keepL job L) : Int))) ∧ Ij 49 w0 w' p c F (keepL job L) ∧ Below w0.heap.size w0 w' ∧ Kept w w' (fun k => k = p ∨ F k) := by
  have hbx := below_alloc (Below.refl w.heap.size w) (.cells #[.int .i64 job] 3)
  have hp := h.lt
  have h1 := h.below hbx
  have hpw := h.pw
  have hout := h.out
  obtain ⟨vs, q1, q2, q3⟩ := h1.row
  have V1 : Aside0 (IjV 49 w0 (w.alloc (.cells #[.int .i64 job] 3)) p c F vs L) := ⟨⟨q1, q2, q3, h1.pw, h1.out, h1.fresh⟩⟩
  have H1 := Aside0.mk h1
  have B1 := Aside0.mk (below_then hB hB.size hbx)
  have K1 : Aside0 (Kept w (w.alloc (.cells #[.int .i64 job] 3)) (fun k => k = p ∨ F k)) := ⟨Kept.of_below hbx _⟩
  have J1 := Aside0.mk (blk_new w (.cells #[.int .i64 job] 3))
  have c1 := (blk_cell q1 1).trans rfl
  have c2 := (blk_cell q1 2).trans rfl
  have c3 := (blk_cell q1 3).trans rfl
  have c4 := (blk_cell q1 4).trans rfl
  have npj : ¬ w.heap.size = p := by omega
  clear h h1 q1 q2 q3 hbx
  go_enter Try.func18, Try.ntmps18
  go_wp2_with fail
  generalize w.alloc (.cells #[.int .i64 job] 3) = wa at *
  generalize w.heap.size = jb at *
  refine (len_calls H1.out ht).mono ?_
  rintro e wb ⟨rfl, rfl⟩
  clear H1
  go_wp2_with fail
  clear c1 c2 c3 c4
  go_loopw [16] (fun v16 wr => ∃ (k : Nat) (vc : Nat → Value) (Lc : Nat → List S33), k ≤ 4 ∧ v16 = .int .i64 (k : Int) ∧ Aside0 (IjV 49 w0 wr p c F vc Lc) ∧ Aside0 (∀ b, b < 4 → Lc b = if b < k then keep job (L b) else L b) ∧ Aside0 (∀ b, b < 4 → k ≤ b → vc b = vs b) ∧ Aside0 (wr.heap[jb]? = some (.cells #[.int .i64 job] 3 (0, 0))) ∧ Aside0 (Below w0.heap.size w0 wr) ∧ Aside0 (Kept w wr (fun k => k = p ∨ F k))) (fun i _ => 4 - (intOf i).toNat)
  case atStart => exact ⟨0, vs, L, by omega, rfl, V1, ⟨fun b _ => by simp⟩, ⟨fun _ _ _ => rfl⟩, J1, B1, K1⟩
  case round =>
    clear V1 B1 K1 J1
    obtain ⟨k, vc, Lc, hk, rfl, HV, HL, HE, HJ, HB, HK⟩ := hrel
    by_cases hlt : k < 4
    · have hidx := idx_any vs k hlt
      obtain ⟨A, n, ev, _⟩ := Kd.Q_slice (HV.out.rows k hlt)
      have hC := Kd.Q_reads' (by have := HV.out.rows k hlt; rw [ev] at this; exact this)
      have elk : Lc k = L k := by rw [HL.out k hlt, if_neg (by omega)]
      have hll := tot_le L k hlt
      have HC : Aside0 (∀ W, Below wr.heap.size wr W → Calls Try.prog 27 #[vs k] W fun e w' => ∃ v, e = .returned v ∧ Kd.R k33 33 w' W.heap.size (fun _ => True) v (L k) ∧ Below W.heap.size W w') := ⟨fun W hW => by
        rw [← HE.out k hlt (Nat.le_refl _), ev, ← elk]
        exact clone_calls (Kd.C_below hC.2.2 hW) (by rw [elk]; omega)⟩
      have x0 := (blk_cell HV.out.heap (1 + k)).trans (arr5 _ vc k hlt)
      have y0 := blk_frozen HV.out.heap (1 + k)
      have i0 : (0 : Int) ≤ (k : Int) := by omega
      have i1 : (k : Int) < 4 := by omega
      have hpl := blk_lt HV.out.heap
      have hjl := blk_lt HJ.out
      clear hC elk ev
      go_wp2_with fail
      go_region_with (first
          | (go_at_call 27; refine (HC.out _ (below_drew (Below.refl _ _))).mono ?_; rintro e wd ⟨v, rfl, r, bd⟩; have hbd := below_then (below_drew (Below.refl wr.heap.size wr)) (Nat.le_refl _) bd; have xa := (hbd.cell (p := ⟨p, 1 + k, none⟩) hpl).trans x0; have ya := (hbd.frozen (p := ⟨p, 1 + k, none⟩) hpl).trans y0; have HR := Aside0.mk r; have HBD := Aside0.mk hbd; have HJD := Aside0.mk ((blk_cell (blk_below HJ.out hbd) 0).trans rfl); clear r bd hbd)
          | (go_at_call 26; refine (delete_row job HBD.out HBD.out.size (Kd.R_lower HR.out (Nat.le_refl _)) HJD.out hjl (by omega)).mono ?_; rintro e we ⟨v2, rfl, r2, be⟩; obtain ⟨A2, n2, rfl⟩ := Kd.R_slice r2; have xb := (be.cell (p := ⟨p, 1 + k, none⟩) hpl).trans x0; have yb := (be.frozen (p := ⟨p, 1 + k, none⟩) hpl).trans y0; have HR2 := Aside0.mk r2; have HBE := Aside0.mk be; clear r2 be))
      all_goals
        try go_wp2_with fail
        obtain ⟨e1, e2, e3⟩ := HV.out.put HB.out hlt HBE.out HR2.out
        have ho := blk_far (blk_below HJ.out HBE.out) (p := ⟨p, 1 + k, none⟩) npj (.slice A2 (keep job (L k)).length n2)
        go_roundw
        case rel =>
          refine ⟨k + 1, _, _, by omega, by go_num, ⟨e1⟩, ⟨fun b hb => ?_⟩, ⟨fun b hb hkb => ?_⟩, ⟨ho⟩, ⟨e2⟩, ⟨HK.out.then_ e3 (fun q hq => .inl hq)⟩⟩
          · by_cases e : b = k
            · subst e; rw [upd_self, if_pos (by omega)]
            · rw [upd_ne _ _ e, HL.out b hb]
              by_cases hbk : b < k
              · rw [if_pos hbk, if_pos (by omega)]
              · rw [if_neg hbk, if_neg (by omega)]
          · rw [upd_ne _ _ (by omega)]
            exact HE.out b hb (by omega)
        case measure => simp [intOf]; omega
    · obtain rfl : k = 4 := by omega
      have hij := HV.out.ij (L' := keepL job L) (fun b hb => by rw [HL.out b hb, if_pos hb]; rfl)
      have HI := Aside0.mk hij
      have htk := tot_keep job L
      clear hij
      go_wp2_with fail
      refine (len_calls HI.out (by omega)).mono ?_
      rintro e wb ⟨rfl, rfl⟩
      go_wp2_with fail
      go_ret
      exact ⟨rfl, HI.out, HB.out, HK.out⟩

end Go.Proofs.Ytfneiocgjoalkaa.Rm
