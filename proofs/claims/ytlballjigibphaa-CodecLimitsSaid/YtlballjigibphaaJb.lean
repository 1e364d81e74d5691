/- The codec's reader of a job: a wrong head; the empty job, walked. -/
import Derived.Test.YtlballjigibphaaRd2
namespace Go.Proofs.Ytlballjigibphaa.Rd
open Go.RowKit Go.Proofs.YtlballjigibphaaW.PrintWords Go.Proofs.YtlballjigibphaaW.PrintLast Go.Proofs.YtlballjigibphaaW.PrintMore
open Go.Proofs.Ytlballjigibphaa.PCodecLimits
set_option linter.unusedVariables false

theorem results_c1 {P : Program} {fn : Func} {p : Tmp} {ty : TypeId} (h : fn.results = #[.cell p ty]) (tmps : Array Value) (w : World) (g : Nat) (t : TypeId) (cs : Array Value) (fr : Nat × Nat) (d : TypeDesc)
    (hp : tmps.getD p undef = .pointer (some ⟨g, 0, none⟩)) (hg : w.heap[g]? = some (.cells cs t fr))
    (hu : P.underlying ty = some d) (hd : (match d with | .struct _ | .array _ _ => true | _ => false) = true) (hi : (P.info? ty).map (·.size) = some cs.size) :
    (results fn tmps).run P w = .ok (.agg cs) w := by
  have hp' : tmps[p]?.getD undef = .pointer (some ⟨g, 0, none⟩) := by simpa using hp
  simp [results, h, hp', asAddr, run_loadVar_row w g t ty cs fr d hg hu hd hi]

set_option maxHeartbeats 1000000 in
set_option maxRecDepth 100000 in
/-- A wrong head: it panics with 'broken'. -/
theorem job_head {w0 w : World} {p : Nat} (a b c : Int) (r : List Int) (h : Rd w0 w p (a :: b :: c :: r)) (hn : r.length ≤ 900000) (hw : a ≠ 84 ∨ (a = 84 ∧ b = 70 ∧ c ≠ 1)) :
    Calls Try.prog 40 #[.pointer (some ⟨p, 0, none⟩)] w fun e w' => e = .panicked [{ v := .iface 83 (.agg #[]), recovered := false }] ∧ Below w0.heap.size w0 w' ∧ Kept w w' (fun q => q = p) := by
  have hb := below_alloc (Below.refl w.heap.size w) (.cells #[.slice none 0 0, .slice none 0 0, .slice none 0 0, .int .i64 0] 28)
  have H := Aside0.mk (h.below' hb)
  have hp := h.lt
  have hpw := h.pw
  have K0 : Aside0 (Kept w (w.alloc (.cells #[.slice none 0 0, .slice none 0 0, .slice none 0 0, .int .i64 0] 28)) (fun q => q = p)) := ⟨Kept.of_below hb _⟩
  clear h hb
  go_enter Try.func40, Try.ntmps40
  go_wp2_with fail
  refine (take_rd 3 H.out (by simp) (by simp; omega)).mono ?_
  rintro e w1 ⟨⟨A, cc, rfl, hl, hc⟩, h1, k1⟩
  have e3 : (a :: b :: c :: r).take 3 = [a, b, c] := rfl
  rw [e3] at hl hc ⊢
  have hc1 := Kd.C_below hc h1.below
  obtain ⟨ad, rfl, x0⟩ := Kd.at_int hc1 0 (by omega) (by simp)
  obtain ⟨ad', e', x1⟩ := Kd.at_int hc1 1 (by omega) (by simp)
  cases e'
  obtain ⟨ad', e', x2⟩ := Kd.at_int hc1 2 (by omega) (by simp)
  cases e'
  have x0 : w1.cell? ad = some (.int .u8 a) := x0
  have x1 : w1.cell? { ad with off := ad.off + 1, spot := none } = some (.int .u8 b) := x1
  have x2 : w1.cell? { ad with off := ad.off + 2, spot := none } = some (.int .u8 c) := x2
  have H1 := Aside0.mk h1
  have K1 := Aside0.mk (K0.out.then_ k1 (fun q hq => .inl hq))
  clear hc hc1 h1 k1 e3
  rcases hw with hw | ⟨rfl, rfl, hw⟩
  · have t0 : (a != 84) = true := by simpa using hw
    go_wp2_with fail
    exact ⟨rfl, ⟨rfl, H1.out.below, K1.out⟩⟩
  · have t0 : (c != 1) = true := by simpa using hw
    go_wp2_with fail
    exact ⟨rfl, ⟨rfl, H1.out.below, K1.out⟩⟩

set_option maxHeartbeats 2000000 in
set_option maxRecDepth 100000 in
/-- The bytes of the empty job. -/
theorem job_empty {w0 w : World} {p : Nat} (h : Rd w0 w p (84 :: 70 :: 1 :: zs 32)) :
    Calls Try.prog 40 #[.pointer (some ⟨p, 0, none⟩)] w fun e w' => e = .returned (.agg #[.slice none 0 0, .slice none 0 0, .slice none 0 0, .int .i64 0]) ∧ Below w0.heap.size w0 w' ∧ Kept w w' (fun q => q = p) := by
  have hb := below_alloc (Below.refl w.heap.size w) (.cells #[.slice none 0 0, .slice none 0 0, .slice none 0 0, .int .i64 0] 28)
  have H := Aside0.mk (h.below' hb)
  have hp := h.lt
  have hpw := h.pw
  have hw0 := h.below.size
  have K0 : Aside0 (Kept w (w.alloc (.cells #[.slice none 0 0, .slice none 0 0, .slice none 0 0, .int .i64 0] 28)) (fun q => q = p)) := ⟨Kept.of_below hb _⟩
  have O0 := Aside0.mk (blk_new w (.cells #[.slice none 0 0, .slice none 0 0, .slice none 0 0, .int .i64 0] 28))
  clear h hb
  go_enter Try.func40, Try.ntmps40
  go_wp2_with fail
  refine (take_rd 3 H.out (by simp) (by simp [zs])).mono ?_
  rintro e w1 ⟨⟨A, cc, rfl, hl, hc⟩, h1, k1⟩
  have e3 : (84 :: 70 :: 1 :: zs 32).take 3 = [84, 70, 1] := rfl
  have e4 : (84 :: 70 :: 1 :: zs 32).drop 3 = zs 32 := rfl
  rw [e3] at hl hc ⊢
  rw [e4] at h1
  have hc1 := Kd.C_below hc h1.below
  obtain ⟨ad, rfl, x0⟩ := Kd.at_int hc1 0 (by omega) (by simp)
  obtain ⟨ad', e', x1⟩ := Kd.at_int hc1 1 (by omega) (by simp)
  cases e'
  obtain ⟨ad', e', x2⟩ := Kd.at_int hc1 2 (by omega) (by simp)
  cases e'
  have x0 : w1.cell? ad = some (.int .u8 84) := x0
  have x1 : w1.cell? { ad with off := ad.off + 1, spot := none } = some (.int .u8 70) := x1
  have x2 : w1.cell? { ad with off := ad.off + 2, spot := none } = some (.int .u8 1) := x2
  have H1 := Aside0.mk h1
  have K1 := Aside0.mk (K0.out.then_ k1 (fun q hq => .inl hq))
  have O1 := Aside0.mk (blk_kept O0.out k1 (by omega))
  clear hc hc1 h1 k1 e3 e4 H K0 O0
  go_wp2_with fail
  refine (number_zero 24 H1.out (by omega)).mono ?_
  rintro e w2 ⟨rfl, h2, k2⟩
  have hb2 := below_alloc (Below.refl w2.heap.size w2) (.cells #[.slice none 0 0, .slice none 0 0, .slice none 0 0, .int .i64 0] 28)
  have H2 := Aside0.mk (h2.below' hb2)
  have k2' := K1.out.then_ k2 (fun q hq => .inl hq)
  have K2 := Aside0.mk (k2'.then_ (Kept.of_below hb2 (fun q => q = p)) (fun q hq => .inl hq))
  have O2 := Aside0.mk (blk_below (blk_kept O1.out k2 (by omega)) hb2)
  have J2 := Aside0.mk (blk_new w2 (.cells #[.slice none 0 0, .slice none 0 0, .slice none 0 0, .int .i64 0] 28))
  have hj := h2.lt
  have hsz : w.heap.size < w2.heap.size := Nat.lt_of_lt_of_le (blk_lt O1.out) k2.1
  clear h2 k2 k2' hb2 H1 K1 O1 x0 x1 x2
  go_wp2_with fail
  refine (count_zero 16 H2.out (by omega)).mono ?_
  rintro e w3 ⟨rfl, h3, k3⟩
  have H3 := Aside0.mk h3
  have K3 := Aside0.mk (K2.out.then_ k3 (fun q hq => .inl hq))
  have O3 := Aside0.mk (blk_kept O2.out k3 (by omega))
  have J3 := Aside0.mk (blk_kept J2.out k3 (by omega))
  clear h3 k3 H2 K2 O2 J2
  generalize w2.heap.size = jb at *
  go_wp2_with fail
  go_loopw [31] (fun v31 wr => v31 = .int .i64 0 ∧ w3 = wr) (fun _ _ => 0)
  case atStart => exact ⟨rfl, rfl⟩
  case round =>
    obtain ⟨rfl, rfl⟩ := hrel
    go_wp2_with fail
    refine (count_zero 8 H3.out (by omega)).mono ?_
    rintro e w4 ⟨rfl, h4, k4⟩
    have H4 := Aside0.mk h4
    have K4 := Aside0.mk (K3.out.then_ k4 (fun q hq => .inl hq))
    have O4 := Aside0.mk (blk_kept O3.out k4 (by omega))
    have J4 := Aside0.mk (blk_kept J3.out k4 (by omega))
    clear h4 k4 H3 K3 O3 J3
    go_wp2_with fail
    go_loopw [54] (fun v54 wr => v54 = .int .i64 0 ∧ w4 = wr) (fun _ _ => 0)
    case atStart => exact ⟨rfl, rfl⟩
    case round =>
      obtain ⟨rfl, rfl⟩ := hrel
      go_wp2_with fail
      refine (list_zero 0 H4.out (by omega)).mono ?_
      rintro e w5 ⟨rfl, h5, k5⟩
      have B5 := Aside0.mk h5.below
      have K5 := Aside0.mk (K4.out.then_ k5 (fun q hq => .inl hq))
      have o5 := blk_kept O4.out k5 (by omega)
      have j5 := blk_kept J4.out k5 (by omega)
      obtain ⟨A5, c5, r5, _⟩ := h5.row
      have y0 := (blk_cell r5 0).trans rfl
      have a0 := (blk_cell j5 0).trans rfl
      have a1 := (blk_cell j5 1).trans rfl
      have a2 := (blk_cell j5 2).trans rfl
      have a3 := (blk_cell j5 3).trans rfl
      have g2 := blk_frozen j5 2
      have b0 := (blk_cell o5 0).trans rfl
      have b1 := (blk_cell o5 1).trans rfl
      have b2 := (blk_cell o5 2).trans rfl
      have b3 := (blk_cell o5 3).trans rfl
      have z0 := blk_frozen o5 0
      have z1 := blk_frozen o5 1
      have z2 := blk_frozen o5 2
      have z3 := blk_frozen o5 3
      have n1 : ¬ jb = p := by omega
      have n2 : ¬ p = jb := by omega
      have n3 : ¬ jb = w.heap.size := by omega
      have n4 : ¬ w.heap.size = jb := by omega
      have n5 : ¬ w.heap.size = p := by omega
      have n6 : ¬ p = w.heap.size := by omega
      have O5 := Aside0.mk o5
      clear h5 k5 r5 H4 K4 O4 J4 j5 o5
      go_wp2_with fail
      have fin := blk_set (blk_set (blk_set (blk_set (blk_far O5.out (p := ⟨jb, 2, none⟩) n4 (.slice none 0 0)) 0 (.slice none 0 0)) 1 (.slice none 0 0)) 2 (.slice none 0 0)) 3 (.int .i64 0)
      refine bodyPost_ret (v := .agg #[.slice none 0 0, .slice none 0 0, .slice none 0 0, .int .i64 0]) (results_c1 Try.results40 _ _ w.heap.size 28 _ (0, 0) _ rfl (by simpa using fin) Try.underlying28 rfl (by kernel_rfl)) rfl ⟨rfl, ?_, ?_⟩
      · exact ((((B5.out.setCell (p := ⟨jb, 2, none⟩) (by show w0.heap.size ≤ jb; omega) _).setCell (p := ⟨w.heap.size, 0, none⟩) hw0 _).setCell (p := ⟨w.heap.size, 1, none⟩) hw0 _).setCell (p := ⟨w.heap.size, 2, none⟩) hw0 _).setCell (p := ⟨w.heap.size, 3, none⟩) hw0 _
      · exact ((((K5.out.setCell (p := ⟨jb, 2, none⟩) (.inr (by show w.heap.size ≤ jb; omega)) _).setCell (p := ⟨w.heap.size, 0, none⟩) (.inr (Nat.le_refl _)) _).setCell (p := ⟨w.heap.size, 1, none⟩) (.inr (Nat.le_refl _)) _).setCell (p := ⟨w.heap.size, 2, none⟩) (.inr (Nat.le_refl _)) _).setCell (p := ⟨w.heap.size, 3, none⟩) (.inr (Nat.le_refl _)) _

end Go.Proofs.Ytlballjigibphaa.Rd
