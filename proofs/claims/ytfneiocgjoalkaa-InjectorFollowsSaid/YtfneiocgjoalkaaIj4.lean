/- Pop of the program's injector, walked. -/
import Derived.Test.YtfneiocgjoalkaaIj3
namespace Go.Proofs.Ytfneiocgjoalkaa.Ij
open Go.RowKit Go.Proofs.YtfneiocgjoalkaaW.PrintWords Go.Proofs.YtfneiocgjoalkaaW.PrintLast Go.Proofs.YtfneiocgjoalkaaW.PrintMore
open Go.Proofs.Ytfneiocgjoalkaa.PInjectorFollows
set_option linter.unusedVariables false
attribute [local go_sem] idx0 idx1 idx2 idx3

theorem zero_new (w : World) : ∃ W, w.alloc (.cells #[.int .i64 0, .int .i64 0] 33) = W ∧ Below w.heap.size w W ∧ w.heap.size < W.heap.size ∧ W.heap[w.heap.size]? = some (.cells #[.int .i64 0, .int .i64 0] 33 (0, 0)) :=
  ⟨_, rfl, below_alloc (Below.refl _ _) _, by simp, blk_new _ _⟩

set_option maxHeartbeats 1000000 in
set_option maxRecDepth 100000 in
theorem pop_nil (w : World) : Calls Try.prog 11 #[.pointer none] w fun e w' => e = .returned (.tuple #[.agg #[.int .i64 0, .int .i64 0], .bool false]) ∧ Below w.heap.size w w' := by
  go_enter Try.func11, Try.ntmps11
  go_wp2_with fail
  exact bodyPost_ret (v := .tuple #[.agg #[.int .i64 0, .int .i64 0], .bool false]) (by simp [results, Try.results11, go_sem]) rfl ⟨rfl, below_alloc (Below.refl _ _) _⟩

set_option maxHeartbeats 1000000 in
set_option maxRecDepth 100000 in
theorem pop_none_cells (p n0 n1 n2 n3 : Nat) (A0 A1 A2 A3 : Option Addr) (w : World) (hp : p < w.heap.size)
    (h0 : w.cell? ⟨p, 1, none⟩ = some (.slice A0 0 n0)) (h1 : w.cell? ⟨p, 2, none⟩ = some (.slice A1 0 n1)) (h2 : w.cell? ⟨p, 3, none⟩ = some (.slice A2 0 n2)) (h3 : w.cell? ⟨p, 4, none⟩ = some (.slice A3 0 n3)) :
    Calls Try.prog 11 #[.pointer (some ⟨p, 0, none⟩)] w fun e w' => e = .returned (.tuple #[.agg #[.int .i64 0, .int .i64 0], .bool false]) ∧ Below w.heap.size w w' := by
  have m0 := World.new_ne _ _ h0
  have m1 := World.new_ne _ _ h1
  have m2 := World.new_ne _ _ h2
  have m3 := World.new_ne _ _ h3
  go_enter Try.func11, Try.ntmps11
  go_wp2_with fail
  go_loopw [13] (fun v13 wr => ∃ k : Nat, k ≤ 4 ∧ v13 = .int .i64 (k : Int) ∧ wr = w.alloc (.cells #[.int .i64 0, .int .i64 0] 33)) (fun i _ => 4 - (intOf i).toNat)
  case atStart => exact ⟨0, by omega, rfl, rfl⟩
  case round =>
    obtain ⟨k, hk, rfl, rfl⟩ := hrel
    rcases (by omega : k = 0 ∨ k = 1 ∨ k = 2 ∨ k = 3 ∨ k = 4) with rfl | rfl | rfl | rfl | rfl
    · go_wp2_with fail
      go_roundw
      case rel => exact ⟨1, by omega, by go_num, trivial⟩
      case measure => simp [intOf]
    · go_wp2_with fail
      go_roundw
      case rel => exact ⟨2, by omega, by go_num, trivial⟩
      case measure => simp [intOf]
    · go_wp2_with fail
      go_roundw
      case rel => exact ⟨3, by omega, by go_num, trivial⟩
      case measure => simp [intOf]
    · go_wp2_with fail
      go_roundw
      case rel => exact ⟨4, by omega, by go_num, trivial⟩
      case measure => simp [intOf]
    · go_wp2_with fail
      exact bodyPost_ret (v := .tuple #[.agg #[.int .i64 0, .int .i64 0], .bool false]) (by simp [results, Try.results11, go_sem]) rfl ⟨rfl, below_alloc (Below.refl _ _) _⟩

theorem pop_none {w0 w : World} {p : Nat} {c : Int} {F : Nat → Prop} {L : Nat → List S33} (h : Ij 49 w0 w p c F L) (he : ∀ b, b < 4 → L b = []) :
    Calls Try.prog 11 #[.pointer (some ⟨p, 0, none⟩)] w fun e w' => e = .returned (.tuple #[.agg #[.int .i64 0, .int .i64 0], .bool false]) ∧ Below w.heap.size w w' := by
  obtain ⟨A0, n0, h0⟩ := h.cell 0 (by omega)
  obtain ⟨A1, n1, h1⟩ := h.cell 1 (by omega)
  obtain ⟨A2, n2, h2⟩ := h.cell 2 (by omega)
  obtain ⟨A3, n3, h3⟩ := h.cell 3 (by omega)
  rw [he 0 (by omega)] at h0
  rw [he 1 (by omega)] at h1
  rw [he 2 (by omega)] at h2
  rw [he 3 (by omega)] at h3
  exact pop_none_cells p n0 n1 n2 n3 A0 A1 A2 A3 w h.lt h0 h1 h2 h3

/-- The rows of an elder world lie in no block that was made since. -/
theorem Ij.skip {T : TypeId} {w0 w W : World} {p : Nat} {c : Int} {F : Nat → Prop} {L : Nat → List S33} (h : Ij T w0 w p c F L) (hb : Below w.heap.size w W) (hW : w.heap.size < W.heap.size) : Ij T w0 W p c (fun k => F k ∧ k ≠ w.heap.size) L := by
  have hp := h.lt
  obtain ⟨vs, h1, h2, h3⟩ := h.row
  exact ⟨⟨vs, blk_below h1 hb, fun b hb4 => Kd.Q_below (Kd.Q_mono (Kd.Q_bound (h2 b hb4)) (fun k hk => ⟨hk.1, Nat.ne_of_lt hk.2.2.1⟩)) hb, h3⟩, h.pw, fun hh => h.out hh.1, fun k hk => ⟨h.fresh k (by omega), by omega⟩⟩
theorem Ij.mono {T : TypeId} {w0 w : World} {p : Nat} {c : Int} {F F' : Nat → Prop} {L : Nat → List S33} (h : Ij T w0 w p c F L) (hF : ∀ k, F k → F' k) (ho : ¬ F' p) : Ij T w0 w p c F' L := by
  obtain ⟨vs, h1, h2, h3⟩ := h.row
  exact ⟨⟨vs, h1, fun b hb4 => Kd.Q_mono (h2 b hb4) hF, h3⟩, h.pw, ho, fun k hk => hF k (h.fresh k hk)⟩

/-- Behind a band's cut and the store of what was first into the result's own block. -/
theorem pop_leaves {T : TypeId} {w0 w W : World} {p b : Nat} {c : Int} {F : Nat → Prop} {L : Nat → List S33} {vs : Nat → Value} {v1 : Value} {xs : List S33} (x : S33) (h : Ij T w0 w p c F L) (hB : Below w0.heap.size w0 w) (hb4 : b < 4)
    (h1 : w.heap[p]? = some (.cells #[.int .i64 c, vs 0, vs 1, vs 2, vs 3] T (0, 0))) (h2 : ∀ b, b < 4 → Kd.Q k33 33 w w0.heap.size F (vs b) (L b)) (h3 : ∀ i j, i < 4 → j < 4 → i ≠ j → Sep (vs i) (vs j))
    (hb : Below w.heap.size w W) (hW : w.heap.size < W.heap.size) (nz : W.heap[w.heap.size]? = some (.cells #[.int .i64 0, .int .i64 0] 33 (0, 0)))
    (hv : Kd.Q k33 33 W w0.heap.size (fun k => F k ∧ k ≠ w.heap.size) v1 xs) (hvs : ∀ j, j < 4 → j ≠ b → Sep v1 (vs j)) :
    Ij T w0 (((W.setCell ⟨p, 1 + b, none⟩ v1).setCell ⟨w.heap.size, 0, none⟩ (.int .i64 x.f0)).setCell ⟨w.heap.size, 1, none⟩ (.int .i64 x.f1)) p c F (upd L b xs) ∧
    Below w0.heap.size w0 (((W.setCell ⟨p, 1 + b, none⟩ v1).setCell ⟨w.heap.size, 0, none⟩ (.int .i64 x.f0)).setCell ⟨w.heap.size, 1, none⟩ (.int .i64 x.f1)) ∧
    Kept w (((W.setCell ⟨p, 1 + b, none⟩ v1).setCell ⟨w.heap.size, 0, none⟩ (.int .i64 x.f0)).setCell ⟨w.heap.size, 1, none⟩ (.int .i64 x.f1)) (fun k => k = p ∨ F k) ∧
    (((W.setCell ⟨p, 1 + b, none⟩ v1).setCell ⟨w.heap.size, 0, none⟩ (.int .i64 x.f0)).setCell ⟨w.heap.size, 1, none⟩ (.int .i64 x.f1)).heap[w.heap.size]? = some (.cells #[.int .i64 x.f0, .int .i64 x.f1] 33 (0, 0)) := by
  have hw := hB.size
  have hp := blk_lt h1
  have hpw := h.pw
  have kW : Kept w W (fun k => k = p ∨ (F k ∧ k ≠ w.heap.size)) := Kept.of_below hb _
  have hs := h.skip hb hW
  obtain ⟨e1, e2, e3⟩ := store_band (w := w) (L := L) hb4 hpw hs.out (blk_below h1 hb)
    (fun j hj _ => Kd.Q_below (Kd.Q_mono (Kd.Q_bound (h2 j hj)) (fun k hk => ⟨hk.1, Nat.ne_of_lt hk.2.2.1⟩)) hb) (fun i j hi hj hij _ _ => h3 i j hi hj hij) hv hvs (below_then hB hw hb) kW (fun k hk => hs.fresh k hk)
  have k2 : Kept (W.setCell ⟨p, 1 + b, none⟩ v1) (((W.setCell ⟨p, 1 + b, none⟩ v1).setCell ⟨w.heap.size, 0, none⟩ (.int .i64 x.f0)).setCell ⟨w.heap.size, 1, none⟩ (.int .i64 x.f1)) (fun k => k = w.heap.size) :=
    ((Kept.refl _ (fun k => k = w.heap.size)).setCell (p := ⟨w.heap.size, 0, none⟩) (.inl rfl) _).setCell (p := ⟨w.heap.size, 1, none⟩) (.inl rfl) _
  refine ⟨(e1.kept k2 (by omega) (fun k hk => hk.2)).mono (fun k hk => hk.1) h.out, ?_, ?_, ?_⟩
  · exact (e2.setCell (by exact hw) _).setCell (by exact hw) _
  · have k0 : Kept w W (fun k => k = p ∨ F k) := Kept.of_below hb _
    exact ((k0.setCell (.inl (.inl rfl)) _).setCell (.inr (Nat.le_refl _)) _).setCell (.inr (Nat.le_refl _)) _
  · simpa using blk_set (blk_set (blk_far nz (p := ⟨p, 1 + b, none⟩) (by exact (Nat.ne_of_lt hp).symm) v1) 0 (.int .i64 x.f0)) 1 (.int .i64 x.f1)

set_option maxHeartbeats 1000000 in
set_option maxRecDepth 100000 in
theorem pop_cells0 (p g o m cap : Nat) (x : S33) (v1 : Value) (v2 : Value) (v3 : Value) (w : World) (hp : p < w.heap.size) (hg : g < w.heap.size) (hgp : g ≠ p) (hcap : m + 1 ≤ cap) (hm : m ≤ 1000000) (hf : w.frozen? ⟨p, 1, none⟩ = false)
    (h0 : w.cell? ⟨p, 1, none⟩ = some (.slice (some ⟨g, o, none⟩) (m + 1) cap)) (h1 : w.cell? ⟨p, 2, none⟩ = some (v1)) (h2 : w.cell? ⟨p, 3, none⟩ = some (v2)) (h3 : w.cell? ⟨p, 4, none⟩ = some (v3)) (x0 : w.cell? ⟨g, o, none⟩ = some (.int .i64 x.f0)) (x1 : w.cell? ⟨g, o + 1, none⟩ = some (.int .i64 x.f1))
    (P : World → Prop) (hP : ∀ W, Below w.heap.size w W → w.heap.size < W.heap.size → W.heap[w.heap.size]? = some (.cells #[.int .i64 0, .int .i64 0] 33 (0, 0)) →
      P (((W.setCell ⟨p, 1, none⟩ (.slice (if cap = 1 then some ⟨g, o, none⟩ else some ⟨g, o + 2, none⟩) m (cap - 1))).setCell ⟨w.heap.size, 0, none⟩ (.int .i64 x.f0)).setCell ⟨w.heap.size, 1, none⟩ (.int .i64 x.f1)).drew) :
    Calls Try.prog 11 #[.pointer (some ⟨p, 0, none⟩)] w fun e w' => e = .returned (.tuple #[refV x, .bool true]) ∧ P w' := by
  have HP := Aside0.mk hP
  clear hP
  obtain ⟨W, hW, hb, hlt, nz⟩ := zero_new w
  have HQ := Aside0.mk (HP.out W hb hlt nz)
  have NZ := Aside0.mk nz
  have h0 := (hb.cell (p := ⟨p, 1, none⟩) hp).trans h0
  have h1 := (hb.cell (p := ⟨p, 2, none⟩) hp).trans h1
  have h2 := (hb.cell (p := ⟨p, 3, none⟩) hp).trans h2
  have h3 := (hb.cell (p := ⟨p, 4, none⟩) hp).trans h3
  have y0 := (hb.cell (p := ⟨g, o, none⟩) hg).trans x0
  have y1 := (hb.cell (p := ⟨g, o + 1, none⟩) hg).trans x1
  have hf := (hb.frozen (p := ⟨p, 1, none⟩) hp).trans hf
  have r0 := (blk_cell nz 0).trans rfl
  have r1 := (blk_cell nz 1).trans rfl
  have s0 := blk_frozen nz 0
  have s1 := blk_frozen nz 1
  have np : ¬ p = w.heap.size := by omega
  have np' : ¬ w.heap.size = p := by omega
  have ng : ¬ g = w.heap.size := by omega
  have ng' : ¬ w.heap.size = g := by omega
  have ngp : ¬ g = p := hgp
  have ngp' : ¬ p = g := Ne.symm hgp
  clear x0 x1
  go_enter Try.func11, Try.ntmps11
  go_wp2_with fail
  clear hW
  go_loopw [13] (fun v13 wr => ∃ k : Nat, k ≤ 0 ∧ v13 = .int .i64 (k : Int) ∧ wr = W) (fun i _ => 4 - (intOf i).toNat)
  case atStart => exact ⟨0, by omega, rfl, rfl⟩
  case round =>
    obtain ⟨k, hk, rfl, rfl⟩ := hrel
    obtain rfl : k = 0 := by omega
    by_cases hc1 : cap = 1
    · subst hc1
      obtain rfl : m = 0 := by omega
      go_wp2_with fail
      go_region
      go_wp2_with fail
      have bx := blk_set (blk_set (blk_far NZ.out (p := ⟨p, 1, none⟩) np' (.slice (some ⟨g, o, none⟩) 0 0)) 0 (.int .i64 x.f0)) 1 (.int .i64 x.f1)
      have hq := HQ.out
      simp only [if_true, Nat.sub_self] at hq
      exact bodyPost_ret (v := .tuple #[refV x, .bool true]) (results_ct Try.results11 _ _ w.heap.size 33 _ (0, 0) _ rfl (by simpa using blk_drew bx) Try.underlying33 rfl (by kernel_rfl)) rfl ⟨rfl, hq⟩
    · go_wp2_with fail
      go_region
      go_wp2_with fail
      have bx := blk_set (blk_set (blk_far NZ.out (p := ⟨p, 1, none⟩) np' (.slice (if cap = 1 then some ⟨g, o, none⟩ else some ⟨g, o + 2, none⟩) m (cap - 1))) 0 (.int .i64 x.f0)) 1 (.int .i64 x.f1)
      have hq := HQ.out
      rw [if_neg hc1] at bx hq
      exact bodyPost_ret (v := .tuple #[refV x, .bool true]) (results_ct Try.results11 _ _ w.heap.size 33 _ (0, 0) _ rfl (by simpa using blk_drew bx) Try.underlying33 rfl (by kernel_rfl)) rfl ⟨rfl, hq⟩


set_option maxHeartbeats 1000000 in
set_option maxRecDepth 100000 in
theorem pop_cells1 (p g o m cap : Nat) (x : S33) (A0 : Option Addr) (n0 : Nat) (v2 : Value) (v3 : Value) (w : World) (hp : p < w.heap.size) (hg : g < w.heap.size) (hgp : g ≠ p) (hcap : m + 1 ≤ cap) (hm : m ≤ 1000000) (hf : w.frozen? ⟨p, 2, none⟩ = false)
    (h0 : w.cell? ⟨p, 1, none⟩ = some (.slice A0 0 n0)) (h1 : w.cell? ⟨p, 2, none⟩ = some (.slice (some ⟨g, o, none⟩) (m + 1) cap)) (h2 : w.cell? ⟨p, 3, none⟩ = some (v2)) (h3 : w.cell? ⟨p, 4, none⟩ = some (v3)) (x0 : w.cell? ⟨g, o, none⟩ = some (.int .i64 x.f0)) (x1 : w.cell? ⟨g, o + 1, none⟩ = some (.int .i64 x.f1))
    (P : World → Prop) (hP : ∀ W, Below w.heap.size w W → w.heap.size < W.heap.size → W.heap[w.heap.size]? = some (.cells #[.int .i64 0, .int .i64 0] 33 (0, 0)) →
      P (((W.setCell ⟨p, 2, none⟩ (.slice (if cap = 1 then some ⟨g, o, none⟩ else some ⟨g, o + 2, none⟩) m (cap - 1))).setCell ⟨w.heap.size, 0, none⟩ (.int .i64 x.f0)).setCell ⟨w.heap.size, 1, none⟩ (.int .i64 x.f1)).drew) :
    Calls Try.prog 11 #[.pointer (some ⟨p, 0, none⟩)] w fun e w' => e = .returned (.tuple #[refV x, .bool true]) ∧ P w' := by
  have HP := Aside0.mk hP
  clear hP
  obtain ⟨W, hW, hb, hlt, nz⟩ := zero_new w
  have HQ := Aside0.mk (HP.out W hb hlt nz)
  have NZ := Aside0.mk nz
  have h0 := (hb.cell (p := ⟨p, 1, none⟩) hp).trans h0
  have h1 := (hb.cell (p := ⟨p, 2, none⟩) hp).trans h1
  have h2 := (hb.cell (p := ⟨p, 3, none⟩) hp).trans h2
  have h3 := (hb.cell (p := ⟨p, 4, none⟩) hp).trans h3
  have y0 := (hb.cell (p := ⟨g, o, none⟩) hg).trans x0
  have y1 := (hb.cell (p := ⟨g, o + 1, none⟩) hg).trans x1
  have hf := (hb.frozen (p := ⟨p, 2, none⟩) hp).trans hf
  have r0 := (blk_cell nz 0).trans rfl
  have r1 := (blk_cell nz 1).trans rfl
  have s0 := blk_frozen nz 0
  have s1 := blk_frozen nz 1
  have np : ¬ p = w.heap.size := by omega
  have np' : ¬ w.heap.size = p := by omega
  have ng : ¬ g = w.heap.size := by omega
  have ng' : ¬ w.heap.size = g := by omega
  have ngp : ¬ g = p := hgp
  have ngp' : ¬ p = g := Ne.symm hgp
  clear x0 x1
  go_enter Try.func11, Try.ntmps11
  go_wp2_with fail
  clear hW
  go_loopw [13] (fun v13 wr => ∃ k : Nat, k ≤ 1 ∧ v13 = .int .i64 (k : Int) ∧ wr = W) (fun i _ => 4 - (intOf i).toNat)
  case atStart => exact ⟨0, by omega, rfl, rfl⟩
  case round =>
    obtain ⟨k, hk, rfl, rfl⟩ := hrel
    rcases (by omega : k = 0 ∨ k = 1) with rfl | rfl
    · go_wp2_with fail
      go_roundw
      case rel => exact ⟨1, by omega, by go_num, trivial⟩
      case measure => simp [intOf]
    · by_cases hc1 : cap = 1
      · subst hc1
        obtain rfl : m = 0 := by omega
        go_wp2_with fail
        go_region
        go_wp2_with fail
        have bx := blk_set (blk_set (blk_far NZ.out (p := ⟨p, 2, none⟩) np' (.slice (some ⟨g, o, none⟩) 0 0)) 0 (.int .i64 x.f0)) 1 (.int .i64 x.f1)
        have hq := HQ.out
        simp only [if_true, Nat.sub_self] at hq
        exact bodyPost_ret (v := .tuple #[refV x, .bool true]) (results_ct Try.results11 _ _ w.heap.size 33 _ (0, 0) _ rfl (by simpa using blk_drew bx) Try.underlying33 rfl (by kernel_rfl)) rfl ⟨rfl, hq⟩
      · go_wp2_with fail
        go_region
        go_wp2_with fail
        have bx := blk_set (blk_set (blk_far NZ.out (p := ⟨p, 2, none⟩) np' (.slice (if cap = 1 then some ⟨g, o, none⟩ else some ⟨g, o + 2, none⟩) m (cap - 1))) 0 (.int .i64 x.f0)) 1 (.int .i64 x.f1)
        have hq := HQ.out
        rw [if_neg hc1] at bx hq
        exact bodyPost_ret (v := .tuple #[refV x, .bool true]) (results_ct Try.results11 _ _ w.heap.size 33 _ (0, 0) _ rfl (by simpa using blk_drew bx) Try.underlying33 rfl (by kernel_rfl)) rfl ⟨rfl, hq⟩


set_option maxHeartbeats 1000000 in
set_option maxRecDepth 100000 in
theorem pop_cells2 (p g o m cap : Nat) (x : S33) (A0 : Option Addr) (n0 : Nat) (A1 : Option Addr) (n1 : Nat) (v3 : Value) (w : World) (hp : p < w.heap.size) (hg : g < w.heap.size) (hgp : g ≠ p) (hcap : m + 1 ≤ cap) (hm : m ≤ 1000000) (hf : w.frozen? ⟨p, 3, none⟩ = false)
    (h0 : w.cell? ⟨p, 1, none⟩ = some (.slice A0 0 n0)) (h1 : w.cell? ⟨p, 2, none⟩ = some (.slice A1 0 n1)) (h2 : w.cell? ⟨p, 3, none⟩ = some (.slice (some ⟨g, o, none⟩) (m + 1) cap)) (h3 : w.cell? ⟨p, 4, none⟩ = some (v3)) (x0 : w.cell? ⟨g, o, none⟩ = some (.int .i64 x.f0)) (x1 : w.cell? ⟨g, o + 1, none⟩ = some (.int .i64 x.f1))
    (P : World → Prop) (hP : ∀ W, Below w.heap.size w W → w.heap.size < W.heap.size → W.heap[w.heap.size]? = some (.cells #[.int .i64 0, .int .i64 0] 33 (0, 0)) →
      P (((W.setCell ⟨p, 3, none⟩ (.slice (if cap = 1 then some ⟨g, o, none⟩ else some ⟨g, o + 2, none⟩) m (cap - 1))).setCell ⟨w.heap.size, 0, none⟩ (.int .i64 x.f0)).setCell ⟨w.heap.size, 1, none⟩ (.int .i64 x.f1)).drew) :
    Calls Try.prog 11 #[.pointer (some ⟨p, 0, none⟩)] w fun e w' => e = .returned (.tuple #[refV x, .bool true]) ∧ P w' := by
  have HP := Aside0.mk hP
  clear hP
  obtain ⟨W, hW, hb, hlt, nz⟩ := zero_new w
  have HQ := Aside0.mk (HP.out W hb hlt nz)
  have NZ := Aside0.mk nz
  have h0 := (hb.cell (p := ⟨p, 1, none⟩) hp).trans h0
  have h1 := (hb.cell (p := ⟨p, 2, none⟩) hp).trans h1
  have h2 := (hb.cell (p := ⟨p, 3, none⟩) hp).trans h2
  have h3 := (hb.cell (p := ⟨p, 4, none⟩) hp).trans h3
  have y0 := (hb.cell (p := ⟨g, o, none⟩) hg).trans x0
  have y1 := (hb.cell (p := ⟨g, o + 1, none⟩) hg).trans x1
  have hf := (hb.frozen (p := ⟨p, 3, none⟩) hp).trans hf
  have r0 := (blk_cell nz 0).trans rfl
  have r1 := (blk_cell nz 1).trans rfl
  have s0 := blk_frozen nz 0
  have s1 := blk_frozen nz 1
  have np : ¬ p = w.heap.size := by omega
  have np' : ¬ w.heap.size = p := by omega
  have ng : ¬ g = w.heap.size := by omega
  have ng' : ¬ w.heap.size = g := by omega
  have ngp : ¬ g = p := hgp
  have ngp' : ¬ p = g := Ne.symm hgp
  clear x0 x1
  go_enter Try.func11, Try.ntmps11
  go_wp2_with fail
  clear hW
  go_loopw [13] (fun v13 wr => ∃ k : Nat, k ≤ 2 ∧ v13 = .int .i64 (k : Int) ∧ wr = W) (fun i _ => 4 - (intOf i).toNat)
  case atStart => exact ⟨0, by omega, rfl, rfl⟩
  case round =>
    obtain ⟨k, hk, rfl, rfl⟩ := hrel
    rcases (by omega : k = 0 ∨ k = 1 ∨ k = 2) with rfl | rfl | rfl
    · go_wp2_with fail
      go_roundw
      case rel => exact ⟨1, by omega, by go_num, trivial⟩
      case measure => simp [intOf]
    · go_wp2_with fail
      go_roundw
      case rel => exact ⟨2, by omega, by go_num, trivial⟩
      case measure => simp [intOf]
    · by_cases hc1 : cap = 1
      · subst hc1
        obtain rfl : m = 0 := by omega
        go_wp2_with fail
        go_region
        go_wp2_with fail
        have bx := blk_set (blk_set (blk_far NZ.out (p := ⟨p, 3, none⟩) np' (.slice (some ⟨g, o, none⟩) 0 0)) 0 (.int .i64 x.f0)) 1 (.int .i64 x.f1)
        have hq := HQ.out
        simp only [if_true, Nat.sub_self] at hq
        exact bodyPost_ret (v := .tuple #[refV x, .bool true]) (results_ct Try.results11 _ _ w.heap.size 33 _ (0, 0) _ rfl (by simpa using blk_drew bx) Try.underlying33 rfl (by kernel_rfl)) rfl ⟨rfl, hq⟩
      · go_wp2_with fail
        go_region
        go_wp2_with fail
        have bx := blk_set (blk_set (blk_far NZ.out (p := ⟨p, 3, none⟩) np' (.slice (if cap = 1 then some ⟨g, o, none⟩ else some ⟨g, o + 2, none⟩) m (cap - 1))) 0 (.int .i64 x.f0)) 1 (.int .i64 x.f1)
        have hq := HQ.out
        rw [if_neg hc1] at bx hq
        exact bodyPost_ret (v := .tuple #[refV x, .bool true]) (results_ct Try.results11 _ _ w.heap.size 33 _ (0, 0) _ rfl (by simpa using blk_drew bx) Try.underlying33 rfl (by kernel_rfl)) rfl ⟨rfl, hq⟩


set_option maxHeartbeats 1000000 in
set_option maxRecDepth 100000 in
theorem pop_cells3 (p g o m cap : Nat) (x : S33) (A0 : Option Addr) (n0 : Nat) (A1 : Option Addr) (n1 : Nat) (A2 : Option Addr) (n2 : Nat) (w : World) (hp : p < w.heap.size) (hg : g < w.heap.size) (hgp : g ≠ p) (hcap : m + 1 ≤ cap) (hm : m ≤ 1000000) (hf : w.frozen? ⟨p, 4, none⟩ = false)
    (h0 : w.cell? ⟨p, 1, none⟩ = some (.slice A0 0 n0)) (h1 : w.cell? ⟨p, 2, none⟩ = some (.slice A1 0 n1)) (h2 : w.cell? ⟨p, 3, none⟩ = some (.slice A2 0 n2)) (h3 : w.cell? ⟨p, 4, none⟩ = some (.slice (some ⟨g, o, none⟩) (m + 1) cap)) (x0 : w.cell? ⟨g, o, none⟩ = some (.int .i64 x.f0)) (x1 : w.cell? ⟨g, o + 1, none⟩ = some (.int .i64 x.f1))
    (P : World → Prop) (hP : ∀ W, Below w.heap.size w W → w.heap.size < W.heap.size → W.heap[w.heap.size]? = some (.cells #[.int .i64 0, .int .i64 0] 33 (0, 0)) →
      P (((W.setCell ⟨p, 4, none⟩ (.slice (if cap = 1 then some ⟨g, o, none⟩ else some ⟨g, o + 2, none⟩) m (cap - 1))).setCell ⟨w.heap.size, 0, none⟩ (.int .i64 x.f0)).setCell ⟨w.heap.size, 1, none⟩ (.int .i64 x.f1)).drew) :
    Calls Try.prog 11 #[.pointer (some ⟨p, 0, none⟩)] w fun e w' => e = .returned (.tuple #[refV x, .bool true]) ∧ P w' := by
  have HP := Aside0.mk hP
  clear hP
  obtain ⟨W, hW, hb, hlt, nz⟩ := zero_new w
  have HQ := Aside0.mk (HP.out W hb hlt nz)
  have NZ := Aside0.mk nz
  have h0 := (hb.cell (p := ⟨p, 1, none⟩) hp).trans h0
  have h1 := (hb.cell (p := ⟨p, 2, none⟩) hp).trans h1
  have h2 := (hb.cell (p := ⟨p, 3, none⟩) hp).trans h2
  have h3 := (hb.cell (p := ⟨p, 4, none⟩) hp).trans h3
  have y0 := (hb.cell (p := ⟨g, o, none⟩) hg).trans x0
  have y1 := (hb.cell (p := ⟨g, o + 1, none⟩) hg).trans x1
  have hf := (hb.frozen (p := ⟨p, 4, none⟩) hp).trans hf
  have r0 := (blk_cell nz 0).trans rfl
  have r1 := (blk_cell nz 1).trans rfl
  have s0 := blk_frozen nz 0
  have s1 := blk_frozen nz 1
  have np : ¬ p = w.heap.size := by omega
  have np' : ¬ w.heap.size = p := by omega
  have ng : ¬ g = w.heap.size := by omega
  have ng' : ¬ w.heap.size = g := by omega
  have ngp : ¬ g = p := hgp
  have ngp' : ¬ p = g := Ne.symm hgp
  clear x0 x1
  go_enter Try.func11, Try.ntmps11
  go_wp2_with fail
  clear hW
  go_loopw [13] (fun v13 wr => ∃ k : Nat, k ≤ 3 ∧ v13 = .int .i64 (k : Int) ∧ wr = W) (fun i _ => 4 - (intOf i).toNat)
  case atStart => exact ⟨0, by omega, rfl, rfl⟩
  case round =>
    obtain ⟨k, hk, rfl, rfl⟩ := hrel
    rcases (by omega : k = 0 ∨ k = 1 ∨ k = 2 ∨ k = 3) with rfl | rfl | rfl | rfl
    · go_wp2_with fail
      go_roundw
      case rel => exact ⟨1, by omega, by go_num, trivial⟩
      case measure => simp [intOf]
    · go_wp2_with fail
      go_roundw
      case rel => exact ⟨2, by omega, by go_num, trivial⟩
      case measure => simp [intOf]
    · go_wp2_with fail
      go_roundw
      case rel => exact ⟨3, by omega, by go_num, trivial⟩
      case measure => simp [intOf]
    · by_cases hc1 : cap = 1
      · subst hc1
        obtain rfl : m = 0 := by omega
        go_wp2_with fail
        go_region
        go_wp2_with fail
        have bx := blk_set (blk_set (blk_far NZ.out (p := ⟨p, 4, none⟩) np' (.slice (some ⟨g, o, none⟩) 0 0)) 0 (.int .i64 x.f0)) 1 (.int .i64 x.f1)
        have hq := HQ.out
        simp only [if_true, Nat.sub_self] at hq
        exact bodyPost_ret (v := .tuple #[refV x, .bool true]) (results_ct Try.results11 _ _ w.heap.size 33 _ (0, 0) _ rfl (by simpa using blk_drew bx) Try.underlying33 rfl (by kernel_rfl)) rfl ⟨rfl, hq⟩
      · go_wp2_with fail
        go_region
        go_wp2_with fail
        have bx := blk_set (blk_set (blk_far NZ.out (p := ⟨p, 4, none⟩) np' (.slice (if cap = 1 then some ⟨g, o, none⟩ else some ⟨g, o + 2, none⟩) m (cap - 1))) 0 (.int .i64 x.f0)) 1 (.int .i64 x.f1)
        have hq := HQ.out
        rw [if_neg hc1] at bx hq
        exact bodyPost_ret (v := .tuple #[refV x, .bool true]) (results_ct Try.results11 _ _ w.heap.size 33 _ (0, 0) _ rfl (by simpa using blk_drew bx) Try.underlying33 rfl (by kernel_rfl)) rfl ⟨rfl, hq⟩


theorem first_cells {w : World} {base g o n cap : Nat} {ok : Nat → Prop} {x : S33} {xs : List S33} (h : Kd.Q k33 33 w base ok (.slice (some ⟨g, o, none⟩) n cap) (x :: xs)) :
    w.cell? ⟨g, o, none⟩ = some (.int .i64 x.f0) ∧ w.cell? ⟨g, o + 1, none⟩ = some (.int .i64 x.f1) := by
  obtain ⟨ad, he, h0, h1⟩ := at_T33 (Kd.Q_reads' h).2.2 0 (by omega) (by simp)
  injection he with he
  subst he
  simpa [rd_T33, Addr.add] using And.intro h0 h1

theorem cut_is {w : World} {base g o n cap : Nat} {ok : Nat → Prop} {x : S33} {xs : List S33} (h : Kd.Q k33 33 w base ok (.slice (some ⟨g, o, none⟩) n cap) (x :: xs)) :
    Kd.Q k33 33 w base ok (.slice (if cap = 1 then some ⟨g, o, none⟩ else some ⟨g, o + 2, none⟩) xs.length (cap - 1)) xs := by
  have hn : n = xs.length + 1 := by simpa using (Kd.Q_reads' h).1
  have h2 := Kd.Q_drop (k := 1) h (by simp)
  have e : (Option.map (·.add (1 * k33.sz)) (some (⟨g, o, none⟩ : Addr))) = some ⟨g, o + 2, none⟩ := rfl
  rw [e, hn] at h2
  exact h2

theorem pop_ok {w0 w : World} {p b : Nat} {c : Int} {F : Nat → Prop} {L : Nat → List S33} {x : S33} {xs : List S33} (h : Ij 49 w0 w p c F L) (hB : Below w0.heap.size w0 w) (hb4 : b < 4) (he : ∀ j, j < b → L j = []) (hx : L b = x :: xs) (ht : tot L ≤ 1000000) :
    Calls Try.prog 11 #[.pointer (some ⟨p, 0, none⟩)] w fun e w' => e = .returned (.tuple #[refV x, .bool true]) ∧ Ij 49 w0 w' p c F (upd L b xs) ∧ Below w0.heap.size w0 w' ∧ Kept w w' (fun k => k = p ∨ F k) := by
  have hp := h.lt
  have htb := tot_le L b hb4
  obtain ⟨vs, h1, h2, h3⟩ := h.row
  obtain ⟨g, o, cap, ev, hbase, hglt, _⟩ := Kd.Q_form (h2 b hb4) (by rw [hx]; simp)
  have hQ := h2 b hb4
  rw [ev, hx] at hQ
  rw [hx] at ev htb
  simp only [List.length_cons] at ev htb
  have hcap := (Kd.Q_reads' hQ).2.1
  obtain ⟨x0, x1⟩ := first_cells hQ
  have hcut := cut_is hQ
  simp only [List.length_cons] at hcap
  have hgp : g ≠ p := fun e => h.out (by have := (h2 b hb4).1 g (by rw [ev]; rfl); rwa [e] at this)
  have hc : ∀ j, j < 4 → w.cell? ⟨p, 1 + j, none⟩ = some (vs j) := fun j hj => by rw [blk_cell h1]; exact arr5 _ vs j hj
  have hlow : ∀ j, j < b → ∃ A n, vs j = .slice A 0 n := fun j hj => by
    obtain ⟨A, n, e, _⟩ := Kd.Q_slice (h2 j (by omega))
    rw [he j hj] at e
    exact ⟨A, n, e⟩
  have hf : w.frozen? ⟨p, b + 1, none⟩ = false := blk_frozen h1 _
  have hP : ∀ W, Below w.heap.size w W → w.heap.size < W.heap.size → W.heap[w.heap.size]? = some (.cells #[.int .i64 0, .int .i64 0] 33 (0, 0)) →
      (fun w' => Ij 49 w0 w' p c F (upd L b xs) ∧ Below w0.heap.size w0 w' ∧ Kept w w' (fun k => k = p ∨ F k))
      (((W.setCell ⟨p, b + 1, none⟩ (.slice (if cap = 1 then some ⟨g, o, none⟩ else some ⟨g, o + 2, none⟩) xs.length (cap - 1))).setCell ⟨w.heap.size, 0, none⟩ (.int .i64 x.f0)).setCell ⟨w.heap.size, 1, none⟩ (.int .i64 x.f1)).drew := by
    intro W hb hlt nz
    rw [show b + 1 = 1 + b by omega]
    obtain ⟨e1, e2, e3, _⟩ := pop_leaves x h hB hb4 h1 h2 h3 hb hlt nz (Kd.Q_below (Kd.Q_mono (Kd.Q_bound hcut) (fun k hk => ⟨hk.1, Nat.ne_of_lt hk.2.2.1⟩)) hb) (fun j hj hjb k e1 e2 => h3 b j hb4 hj (Ne.symm hjb) k (by
      rw [ev]
      split at e1
      · exact e1
      · exact e1) e2)
    exact ⟨e1.drew, below_drew e2, e3.drew⟩
  match b, hb4 with
  | 0, _ =>
    have c0 := hc 0 (by omega); rw [ev] at c0
    exact pop_cells0 p g o xs.length cap x (vs 1) (vs 2) (vs 3) w hp hglt hgp hcap (by omega) hf c0 (hc 1 (by omega)) (hc 2 (by omega)) (hc 3 (by omega)) x0 x1 _ hP
  | 1, _ =>
    obtain ⟨A0, n0, ev0⟩ := hlow 0 (by omega)
    have c0 := hc 0 (by omega); rw [ev0] at c0
    have c1 := hc 1 (by omega); rw [ev] at c1
    exact pop_cells1 p g o xs.length cap x A0 n0 (vs 2) (vs 3) w hp hglt hgp hcap (by omega) hf c0 c1 (hc 2 (by omega)) (hc 3 (by omega)) x0 x1 _ hP
  | 2, _ =>
    obtain ⟨A0, n0, ev0⟩ := hlow 0 (by omega)
    obtain ⟨A1, n1, ev1⟩ := hlow 1 (by omega)
    have c0 := hc 0 (by omega); rw [ev0] at c0
    have c1 := hc 1 (by omega); rw [ev1] at c1
    have c2 := hc 2 (by omega); rw [ev] at c2
    exact pop_cells2 p g o xs.length cap x A0 n0 A1 n1 (vs 3) w hp hglt hgp hcap (by omega) hf c0 c1 c2 (hc 3 (by omega)) x0 x1 _ hP
  | 3, _ =>
    obtain ⟨A0, n0, ev0⟩ := hlow 0 (by omega)
    obtain ⟨A1, n1, ev1⟩ := hlow 1 (by omega)
    obtain ⟨A2, n2, ev2⟩ := hlow 2 (by omega)
    have c0 := hc 0 (by omega); rw [ev0] at c0
    have c1 := hc 1 (by omega); rw [ev1] at c1
    have c2 := hc 2 (by omega); rw [ev2] at c2
    have c3 := hc 3 (by omega); rw [ev] at c3
    exact pop_cells3 p g o xs.length cap x A0 n0 A1 n1 A2 n2 w hp hglt hgp hcap (by omega) hf c0 c1 c2 c3 x0 x1 _ hP

end Go.Proofs.Ytfneiocgjoalkaa.Ij
