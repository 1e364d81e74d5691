/- Pop of the reference's injector, walked. -/
import Derived.Test.YtfneiocgjoalkaaRm3
namespace Go.Proofs.Ytfneiocgjoalkaa.Rf
open Go.RowKit Go.Proofs.YtfneiocgjoalkaaW.PrintWords Go.Proofs.YtfneiocgjoalkaaW.PrintLast Go.Proofs.YtfneiocgjoalkaaW.PrintMore
open Go.Proofs.Ytfneiocgjoalkaa.PInjectorFollows
open Go.Proofs.Ytfneiocgjoalkaa.Ij
set_option linter.unusedVariables false


set_option maxHeartbeats 2000000 in
set_option maxRecDepth 100000 in
theorem popb_cells0 (p g o cap : Nat) (x : S33) (xs : List S33) (v1 : Value) (v2 : Value) (v3 : Value) (w : World) (hp : p < w.heap.size) (hg : g < w.heap.size) (hgp : g ≠ p) (hcap : xs.length + 1 ≤ cap) (hm : xs.length ≤ 1000000) (ho : ∃ cur : Array Value, w.heap[p]? = some (.cells cur 55 (0, 0)) ∧ cur[1]? = some (.slice (some ⟨g, o, none⟩) (xs.length + 1) cap))
    (h0 : w.cell? ⟨p, 1, none⟩ = some (.slice (some ⟨g, o, none⟩) (xs.length + 1) cap)) (h1 : w.cell? ⟨p, 2, none⟩ = some (v1)) (h2 : w.cell? ⟨p, 3, none⟩ = some (v2)) (h3 : w.cell? ⟨p, 4, none⟩ = some (v3)) (x0 : w.cell? ⟨g, o, none⟩ = some (.int .i64 x.f0)) (x1 : w.cell? ⟨g, o + 1, none⟩ = some (.int .i64 x.f1))
    (hcut : ∀ W, Below w.heap.size w W → Kd.C k33 W (if cap = 1 then some ⟨g, o, none⟩ else some ⟨g, o + 2, none⟩) xs.length xs)
    (P : World → Prop) (hP : ∀ W v1, Below w.heap.size w W → w.heap.size < W.heap.size → W.heap[w.heap.size]? = some (.cells #[.int .i64 0, .int .i64 0] 33 (0, 0)) → Kd.R k33 33 W w.heap.size (fun k => k ≠ w.heap.size) v1 xs →
      P (((W.setCell ⟨p, 1, none⟩ v1).setCell ⟨w.heap.size, 0, none⟩ (.int .i64 x.f0)).setCell ⟨w.heap.size, 1, none⟩ (.int .i64 x.f1))) :
    Calls Try.prog 20 #[.pointer (some ⟨p, 0, none⟩)] w fun e w' => e = .returned (.tuple #[refV x, .bool true]) ∧ P w' := by
  have HP := Aside0.mk hP
  have HC := Aside0.mk hcut
  clear hP hcut
  obtain ⟨cur, o1, o2⟩ := ho
  obtain ⟨W, hW, hb, hlt, nz⟩ := zero_new w
  have NZ := Aside0.mk nz
  have OP := Aside0.mk (blk_below o1 hb)
  have OC := Aside0.mk o2
  have HB := Aside0.mk hb
  have h0 := (hb.cell (p := ⟨p, 1, none⟩) hp).trans h0
  have h1 := (hb.cell (p := ⟨p, 2, none⟩) hp).trans h1
  have h2 := (hb.cell (p := ⟨p, 3, none⟩) hp).trans h2
  have h3 := (hb.cell (p := ⟨p, 4, none⟩) hp).trans h3
  have X0 := Aside0.mk x0
  have X1 := Aside0.mk x1
  have l1 : (1 : Int) ≤ (xs.length : Int) + 1 := by omega
  have np : ¬ p = w.heap.size := by omega
  have np' : ¬ w.heap.size = p := by omega
  clear x0 x1 o1 o2 nz
  go_enter Try.func20, Try.ntmps20
  go_wp2_with fail
  clear hW
  go_loopw [4] (fun v4 wr => ∃ k : Nat, k ≤ 0 ∧ v4 = .int .i64 (k : Int) ∧ wr = W) (fun i _ => 4 - (intOf i).toNat)
  case atStart => exact ⟨0, by omega, rfl, rfl⟩
  case round =>
    obtain ⟨k, hk, rfl, rfl⟩ := hrel
    obtain rfl : k = 0 := by omega
    by_cases hc1 : cap = 1
    · subst hc1
      obtain rfl : xs = [] := List.length_eq_zero_iff.1 (by omega)
      have hcc := HC.out wr.drew (below_drew HB.out)
      simp only [if_true] at hcc
      have HCC := Aside0.mk hcc
      clear hcc
      go_wp2_with fail
      go_region_law (first | (refine Kd.R_append_rows_step k33 (w0 := w) (W := wr.drew) w.heap.size (by rfl) _ _ 44 33 (.agg #[.int .i64 0, .int .i64 0]) 16 (by rfl) Try.underlying44 info33 (by rfl) (by decide) (by decide) (.slice none 0 0) [] [] (some ⟨g, o, none⟩) 0 0 (fun k => k ≠ w.heap.size) (fun _ => False) (by rfl) (by rfl) (Kd.R_nil _ _ _ _ _) HCC.out (fun y cs hy => km _ _ _ _ y cs hy) (fun _ hk => hk.elim) (fun k hk => Nat.ne_of_gt (Nat.lt_of_lt_of_le hlt hk)) (below_drew HB.out) HB.out.size (by first | (simp; done) | (simp; omega)) ?_; intro v1 w1 hown hb1 hg1 hat; obtain ⟨A1, n1, rfl⟩ := Kd.R_slice hown; have o1 := blk_grown (blk_drew OP.out) hg1 (by simp [Value.ownBlock]); have O1 := Aside0.mk o1; have q1 := (blk_cell o1 1).trans OC.out; have qf := blk_frozen o1 1; have z1 := blk_grown (blk_drew NZ.out) hg1 (by simp [Value.ownBlock]); have Z1 := Aside0.mk z1; have r0 := (blk_cell z1 0).trans rfl; have r1 := (blk_cell z1 1).trans rfl; have s0 := blk_frozen z1 0; have s1 := blk_frozen z1 1; have y0 := (hb1.cell (p := ⟨g, o, none⟩) hg).trans X0.out; have y1 := (hb1.cell (p := ⟨g, o + 1, none⟩) hg).trans X1.out; have HOWN := Aside0.mk hown; have HB1 := Aside0.mk hb1; clear o1 z1 hown hb1 hg1 hat))
      all_goals
        go_wp2_with fail
        have bx := blk_set (blk_set (blk_far Z1.out (p := ⟨p, 1, none⟩) np' (.slice A1 0 n1)) 0 (.int .i64 x.f0)) 1 (.int .i64 x.f1)
        exact bodyPost_ret (v := .tuple #[refV x, .bool true]) (results_ct Try.results20 _ _ w.heap.size 33 _ (0, 0) _ rfl (by simpa using bx) Try.underlying33 rfl (by kernel_rfl)) rfl ⟨rfl, HP.out w1 _ HB1.out (blk_lt Z1.out) Z1.out HOWN.out⟩
    · have hcc := HC.out wr.drew (below_drew HB.out)
      rw [if_neg hc1] at hcc
      have HCC := Aside0.mk hcc
      clear hcc
      go_wp2_with fail
      go_region_law (first | (refine Kd.R_append_rows_step k33 (w0 := w) (W := wr.drew) w.heap.size (by rfl) _ _ 44 33 (.agg #[.int .i64 0, .int .i64 0]) 16 (by rfl) Try.underlying44 info33 (by rfl) (by decide) (by decide) (.slice none 0 0) [] xs (some ⟨g, o + 2, none⟩) xs.length (cap - 1) (fun k => k ≠ w.heap.size) (fun _ => False) (by rfl) (by rfl) (Kd.R_nil _ _ _ _ _) HCC.out (fun y cs hy => km _ _ _ _ y cs hy) (fun _ hk => hk.elim) (fun k hk => Nat.ne_of_gt (Nat.lt_of_lt_of_le hlt hk)) (below_drew HB.out) HB.out.size (by first | (simp; done) | (simp; omega)) ?_; intro v1 w1 hown hb1 hg1 hat; obtain ⟨A1, n1, rfl⟩ := Kd.R_slice hown; have o1 := blk_grown (blk_drew OP.out) hg1 (by simp [Value.ownBlock]); have O1 := Aside0.mk o1; have q1 := (blk_cell o1 1).trans OC.out; have qf := blk_frozen o1 1; have z1 := blk_grown (blk_drew NZ.out) hg1 (by simp [Value.ownBlock]); have Z1 := Aside0.mk z1; have r0 := (blk_cell z1 0).trans rfl; have r1 := (blk_cell z1 1).trans rfl; have s0 := blk_frozen z1 0; have s1 := blk_frozen z1 1; have y0 := (hb1.cell (p := ⟨g, o, none⟩) hg).trans X0.out; have y1 := (hb1.cell (p := ⟨g, o + 1, none⟩) hg).trans X1.out; have HOWN := Aside0.mk hown; have HB1 := Aside0.mk hb1; clear o1 z1 hown hb1 hg1 hat))
      all_goals
        go_wp2_with fail
        have bx := blk_set (blk_set (blk_far Z1.out (p := ⟨p, 1, none⟩) np' (.slice A1 xs.length n1)) 0 (.int .i64 x.f0)) 1 (.int .i64 x.f1)
        exact bodyPost_ret (v := .tuple #[refV x, .bool true]) (results_ct Try.results20 _ _ w.heap.size 33 _ (0, 0) _ rfl (by simpa using bx) Try.underlying33 rfl (by kernel_rfl)) rfl ⟨rfl, HP.out w1 _ HB1.out (blk_lt Z1.out) Z1.out HOWN.out⟩


set_option maxHeartbeats 2000000 in
set_option maxRecDepth 100000 in
theorem popb_cells1 (p g o cap : Nat) (x : S33) (xs : List S33) (A0 : Option Addr) (n0 : Nat) (v2 : Value) (v3 : Value) (w : World) (hp : p < w.heap.size) (hg : g < w.heap.size) (hgp : g ≠ p) (hcap : xs.length + 1 ≤ cap) (hm : xs.length ≤ 1000000) (ho : ∃ cur : Array Value, w.heap[p]? = some (.cells cur 55 (0, 0)) ∧ cur[2]? = some (.slice (some ⟨g, o, none⟩) (xs.length + 1) cap))
    (h0 : w.cell? ⟨p, 1, none⟩ = some (.slice A0 0 n0)) (h1 : w.cell? ⟨p, 2, none⟩ = some (.slice (some ⟨g, o, none⟩) (xs.length + 1) cap)) (h2 : w.cell? ⟨p, 3, none⟩ = some (v2)) (h3 : w.cell? ⟨p, 4, none⟩ = some (v3)) (x0 : w.cell? ⟨g, o, none⟩ = some (.int .i64 x.f0)) (x1 : w.cell? ⟨g, o + 1, none⟩ = some (.int .i64 x.f1))
    (hcut : ∀ W, Below w.heap.size w W → Kd.C k33 W (if cap = 1 then some ⟨g, o, none⟩ else some ⟨g, o + 2, none⟩) xs.length xs)
    (P : World → Prop) (hP : ∀ W v1, Below w.heap.size w W → w.heap.size < W.heap.size → W.heap[w.heap.size]? = some (.cells #[.int .i64 0, .int .i64 0] 33 (0, 0)) → Kd.R k33 33 W w.heap.size (fun k => k ≠ w.heap.size) v1 xs →
      P (((W.setCell ⟨p, 2, none⟩ v1).setCell ⟨w.heap.size, 0, none⟩ (.int .i64 x.f0)).setCell ⟨w.heap.size, 1, none⟩ (.int .i64 x.f1))) :
    Calls Try.prog 20 #[.pointer (some ⟨p, 0, none⟩)] w fun e w' => e = .returned (.tuple #[refV x, .bool true]) ∧ P w' := by
  have HP := Aside0.mk hP
  have HC := Aside0.mk hcut
  clear hP hcut
  obtain ⟨cur, o1, o2⟩ := ho
  obtain ⟨W, hW, hb, hlt, nz⟩ := zero_new w
  have NZ := Aside0.mk nz
  have OP := Aside0.mk (blk_below o1 hb)
  have OC := Aside0.mk o2
  have HB := Aside0.mk hb
  have h0 := (hb.cell (p := ⟨p, 1, none⟩) hp).trans h0
  have h1 := (hb.cell (p := ⟨p, 2, none⟩) hp).trans h1
  have h2 := (hb.cell (p := ⟨p, 3, none⟩) hp).trans h2
  have h3 := (hb.cell (p := ⟨p, 4, none⟩) hp).trans h3
  have X0 := Aside0.mk x0
  have X1 := Aside0.mk x1
  have l1 : (1 : Int) ≤ (xs.length : Int) + 1 := by omega
  have np : ¬ p = w.heap.size := by omega
  have np' : ¬ w.heap.size = p := by omega
  clear x0 x1 o1 o2 nz
  go_enter Try.func20, Try.ntmps20
  go_wp2_with fail
  clear hW
  go_loopw [4] (fun v4 wr => ∃ k : Nat, k ≤ 1 ∧ v4 = .int .i64 (k : Int) ∧ wr = W) (fun i _ => 4 - (intOf i).toNat)
  case atStart => exact ⟨0, by omega, rfl, rfl⟩
  case round =>
    obtain ⟨k, hk, rfl, rfl⟩ := hrel
    rcases (by omega : k = 0 ∨ k = 1) with rfl | rfl
    · go_wp2_with fail
      go_roundw
      case rel => exact ⟨1, by omega, by go_num, trivial⟩
      case measure => simp [intOf]
    · by_cases hc1 : cap = 1
      · subst hc1
        obtain rfl : xs = [] := List.length_eq_zero_iff.1 (by omega)
        have hcc := HC.out wr.drew (below_drew HB.out)
        simp only [if_true] at hcc
        have HCC := Aside0.mk hcc
        clear hcc
        go_wp2_with fail
        go_region_law (first | (refine Kd.R_append_rows_step k33 (w0 := w) (W := wr.drew) w.heap.size (by rfl) _ _ 44 33 (.agg #[.int .i64 0, .int .i64 0]) 16 (by rfl) Try.underlying44 info33 (by rfl) (by decide) (by decide) (.slice none 0 0) [] [] (some ⟨g, o, none⟩) 0 0 (fun k => k ≠ w.heap.size) (fun _ => False) (by rfl) (by rfl) (Kd.R_nil _ _ _ _ _) HCC.out (fun y cs hy => km _ _ _ _ y cs hy) (fun _ hk => hk.elim) (fun k hk => Nat.ne_of_gt (Nat.lt_of_lt_of_le hlt hk)) (below_drew HB.out) HB.out.size (by first | (simp; done) | (simp; omega)) ?_; intro v1 w1 hown hb1 hg1 hat; obtain ⟨A1, n1, rfl⟩ := Kd.R_slice hown; have o1 := blk_grown (blk_drew OP.out) hg1 (by simp [Value.ownBlock]); have O1 := Aside0.mk o1; have q1 := (blk_cell o1 2).trans OC.out; have qf := blk_frozen o1 2; have z1 := blk_grown (blk_drew NZ.out) hg1 (by simp [Value.ownBlock]); have Z1 := Aside0.mk z1; have r0 := (blk_cell z1 0).trans rfl; have r1 := (blk_cell z1 1).trans rfl; have s0 := blk_frozen z1 0; have s1 := blk_frozen z1 1; have y0 := (hb1.cell (p := ⟨g, o, none⟩) hg).trans X0.out; have y1 := (hb1.cell (p := ⟨g, o + 1, none⟩) hg).trans X1.out; have HOWN := Aside0.mk hown; have HB1 := Aside0.mk hb1; clear o1 z1 hown hb1 hg1 hat))
        all_goals
          go_wp2_with fail
          have bx := blk_set (blk_set (blk_far Z1.out (p := ⟨p, 2, none⟩) np' (.slice A1 0 n1)) 0 (.int .i64 x.f0)) 1 (.int .i64 x.f1)
          exact bodyPost_ret (v := .tuple #[refV x, .bool true]) (results_ct Try.results20 _ _ w.heap.size 33 _ (0, 0) _ rfl (by simpa using bx) Try.underlying33 rfl (by kernel_rfl)) rfl ⟨rfl, HP.out w1 _ HB1.out (blk_lt Z1.out) Z1.out HOWN.out⟩
      · have hcc := HC.out wr.drew (below_drew HB.out)
        rw [if_neg hc1] at hcc
        have HCC := Aside0.mk hcc
        clear hcc
        go_wp2_with fail
        go_region_law (first | (refine Kd.R_append_rows_step k33 (w0 := w) (W := wr.drew) w.heap.size (by rfl) _ _ 44 33 (.agg #[.int .i64 0, .int .i64 0]) 16 (by rfl) Try.underlying44 info33 (by rfl) (by decide) (by decide) (.slice none 0 0) [] xs (some ⟨g, o + 2, none⟩) xs.length (cap - 1) (fun k => k ≠ w.heap.size) (fun _ => False) (by rfl) (by rfl) (Kd.R_nil _ _ _ _ _) HCC.out (fun y cs hy => km _ _ _ _ y cs hy) (fun _ hk => hk.elim) (fun k hk => Nat.ne_of_gt (Nat.lt_of_lt_of_le hlt hk)) (below_drew HB.out) HB.out.size (by first | (simp; done) | (simp; omega)) ?_; intro v1 w1 hown hb1 hg1 hat; obtain ⟨A1, n1, rfl⟩ := Kd.R_slice hown; have o1 := blk_grown (blk_drew OP.out) hg1 (by simp [Value.ownBlock]); have O1 := Aside0.mk o1; have q1 := (blk_cell o1 2).trans OC.out; have qf := blk_frozen o1 2; have z1 := blk_grown (blk_drew NZ.out) hg1 (by simp [Value.ownBlock]); have Z1 := Aside0.mk z1; have r0 := (blk_cell z1 0).trans rfl; have r1 := (blk_cell z1 1).trans rfl; have s0 := blk_frozen z1 0; have s1 := blk_frozen z1 1; have y0 := (hb1.cell (p := ⟨g, o, none⟩) hg).trans X0.out; have y1 := (hb1.cell (p := ⟨g, o + 1, none⟩) hg).trans X1.out; have HOWN := Aside0.mk hown; have HB1 := Aside0.mk hb1; clear o1 z1 hown hb1 hg1 hat))
        all_goals
          go_wp2_with fail
          have bx := blk_set (blk_set (blk_far Z1.out (p := ⟨p, 2, none⟩) np' (.slice A1 xs.length n1)) 0 (.int .i64 x.f0)) 1 (.int .i64 x.f1)
          exact bodyPost_ret (v := .tuple #[refV x, .bool true]) (results_ct Try.results20 _ _ w.heap.size 33 _ (0, 0) _ rfl (by simpa using bx) Try.underlying33 rfl (by kernel_rfl)) rfl ⟨rfl, HP.out w1 _ HB1.out (blk_lt Z1.out) Z1.out HOWN.out⟩


set_option maxHeartbeats 2000000 in
set_option maxRecDepth 100000 in
theorem popb_cells2 (p g o cap : Nat) (x : S33) (xs : List S33) (A0 : Option Addr) (n0 : Nat) (A1 : Option Addr) (n1 : Nat) (v3 : Value) (w : World) (hp : p < w.heap.size) (hg : g < w.heap.size) (hgp : g ≠ p) (hcap : xs.length + 1 ≤ cap) (hm : xs.length ≤ 1000000) (ho : ∃ cur : Array Value, w.heap[p]? = some (.cells cur 55 (0, 0)) ∧ cur[3]? = some (.slice (some ⟨g, o, none⟩) (xs.length + 1) cap))
    (h0 : w.cell? ⟨p, 1, none⟩ = some (.slice A0 0 n0)) (h1 : w.cell? ⟨p, 2, none⟩ = some (.slice A1 0 n1)) (h2 : w.cell? ⟨p, 3, none⟩ = some (.slice (some ⟨g, o, none⟩) (xs.length + 1) cap)) (h3 : w.cell? ⟨p, 4, none⟩ = some (v3)) (x0 : w.cell? ⟨g, o, none⟩ = some (.int .i64 x.f0)) (x1 : w.cell? ⟨g, o + 1, none⟩ = some (.int .i64 x.f1))
    (hcut : ∀ W, Below w.heap.size w W → Kd.C k33 W (if cap = 1 then some ⟨g, o, none⟩ else some ⟨g, o + 2, none⟩) xs.length xs)
    (P : World → Prop) (hP : ∀ W v1, Below w.heap.size w W → w.heap.size < W.heap.size → W.heap[w.heap.size]? = some (.cells #[.int .i64 0, .int .i64 0] 33 (0, 0)) → Kd.R k33 33 W w.heap.size (fun k => k ≠ w.heap.size) v1 xs →
      P (((W.setCell ⟨p, 3, none⟩ v1).setCell ⟨w.heap.size, 0, none⟩ (.int .i64 x.f0)).setCell ⟨w.heap.size, 1, none⟩ (.int .i64 x.f1))) :
    Calls Try.prog 20 #[.pointer (some ⟨p, 0, none⟩)] w fun e w' => e = .returned (.tuple #[refV x, .bool true]) ∧ P w' := by
  have HP := Aside0.mk hP
  have HC := Aside0.mk hcut
  clear hP hcut
  obtain ⟨cur, o1, o2⟩ := ho
  obtain ⟨W, hW, hb, hlt, nz⟩ := zero_new w
  have NZ := Aside0.mk nz
  have OP := Aside0.mk (blk_below o1 hb)
  have OC := Aside0.mk o2
  have HB := Aside0.mk hb
  have h0 := (hb.cell (p := ⟨p, 1, none⟩) hp).trans h0
  have h1 := (hb.cell (p := ⟨p, 2, none⟩) hp).trans h1
  have h2 := (hb.cell (p := ⟨p, 3, none⟩) hp).trans h2
  have h3 := (hb.cell (p := ⟨p, 4, none⟩) hp).trans h3
  have X0 := Aside0.mk x0
  have X1 := Aside0.mk x1
  have l1 : (1 : Int) ≤ (xs.length : Int) + 1 := by omega
  have np : ¬ p = w.heap.size := by omega
  have np' : ¬ w.heap.size = p := by omega
  clear x0 x1 o1 o2 nz
  go_enter Try.func20, Try.ntmps20
  go_wp2_with fail
  clear hW
  go_loopw [4] (fun v4 wr => ∃ k : Nat, k ≤ 2 ∧ v4 = .int .i64 (k : Int) ∧ wr = W) (fun i _ => 4 - (intOf i).toNat)
  case atStart => exact ⟨0, by omega, rfl, rfl⟩
  case round =>
    obtain ⟨k, hk, rfl, rfl⟩ := hrel
    rcases (by omega : k = 0 ∨ k = 1 ∨ k = 2) with rfl | rfl | rfl
    · go_wp2_with fail
      go_roundw
      case rel => exact ⟨1, by omega, by go_num, trivial⟩
      case measure => simp [intOf]
    · go_wp2_with fail
      go_roundw
      case rel => exact ⟨2, by omega, by go_num, trivial⟩
      case measure => simp [intOf]
    · by_cases hc1 : cap = 1
      · subst hc1
        obtain rfl : xs = [] := List.length_eq_zero_iff.1 (by omega)
        have hcc := HC.out wr.drew (below_drew HB.out)
        simp only [if_true] at hcc
        have HCC := Aside0.mk hcc
        clear hcc
        go_wp2_with fail
        go_region_law (first | (refine Kd.R_append_rows_step k33 (w0 := w) (W := wr.drew) w.heap.size (by rfl) _ _ 44 33 (.agg #[.int .i64 0, .int .i64 0]) 16 (by rfl) Try.underlying44 info33 (by rfl) (by decide) (by decide) (.slice none 0 0) [] [] (some ⟨g, o, none⟩) 0 0 (fun k => k ≠ w.heap.size) (fun _ => False) (by rfl) (by rfl) (Kd.R_nil _ _ _ _ _) HCC.out (fun y cs hy => km _ _ _ _ y cs hy) (fun _ hk => hk.elim) (fun k hk => Nat.ne_of_gt (Nat.lt_of_lt_of_le hlt hk)) (below_drew HB.out) HB.out.size (by first | (simp; done) | (simp; omega)) ?_; intro v1 w1 hown hb1 hg1 hat; obtain ⟨A1, n1, rfl⟩ := Kd.R_slice hown; have o1 := blk_grown (blk_drew OP.out) hg1 (by simp [Value.ownBlock]); have O1 := Aside0.mk o1; have q1 := (blk_cell o1 3).trans OC.out; have qf := blk_frozen o1 3; have z1 := blk_grown (blk_drew NZ.out) hg1 (by simp [Value.ownBlock]); have Z1 := Aside0.mk z1; have r0 := (blk_cell z1 0).trans rfl; have r1 := (blk_cell z1 1).trans rfl; have s0 := blk_frozen z1 0; have s1 := blk_frozen z1 1; have y0 := (hb1.cell (p := ⟨g, o, none⟩) hg).trans X0.out; have y1 := (hb1.cell (p := ⟨g, o + 1, none⟩) hg).trans X1.out; have HOWN := Aside0.mk hown; have HB1 := Aside0.mk hb1; clear o1 z1 hown hb1 hg1 hat))
        all_goals
          go_wp2_with fail
          have bx := blk_set (blk_set (blk_far Z1.out (p := ⟨p, 3, none⟩) np' (.slice A1 0 n1)) 0 (.int .i64 x.f0)) 1 (.int .i64 x.f1)
          exact bodyPost_ret (v := .tuple #[refV x, .bool true]) (results_ct Try.results20 _ _ w.heap.size 33 _ (0, 0) _ rfl (by simpa using bx) Try.underlying33 rfl (by kernel_rfl)) rfl ⟨rfl, HP.out w1 _ HB1.out (blk_lt Z1.out) Z1.out HOWN.out⟩
      · have hcc := HC.out wr.drew (below_drew HB.out)
        rw [if_neg hc1] at hcc
        have HCC := Aside0.mk hcc
        clear hcc
        go_wp2_with fail
        go_region_law (first | (refine Kd.R_append_rows_step k33 (w0 := w) (W := wr.drew) w.heap.size (by rfl) _ _ 44 33 (.agg #[.int .i64 0, .int .i64 0]) 16 (by rfl) Try.underlying44 info33 (by rfl) (by decide) (by decide) (.slice none 0 0) [] xs (some ⟨g, o + 2, none⟩) xs.length (cap - 1) (fun k => k ≠ w.heap.size) (fun _ => False) (by rfl) (by rfl) (Kd.R_nil _ _ _ _ _) HCC.out (fun y cs hy => km _ _ _ _ y cs hy) (fun _ hk => hk.elim) (fun k hk => Nat.ne_of_gt (Nat.lt_of_lt_of_le hlt hk)) (below_drew HB.out) HB.out.size (by first | (simp; done) | (simp; omega)) ?_; intro v1 w1 hown hb1 hg1 hat; obtain ⟨A1, n1, rfl⟩ := Kd.R_slice hown; have o1 := blk_grown (blk_drew OP.out) hg1 (by simp [Value.ownBlock]); have O1 := Aside0.mk o1; have q1 := (blk_cell o1 3).trans OC.out; have qf := blk_frozen o1 3; have z1 := blk_grown (blk_drew NZ.out) hg1 (by simp [Value.ownBlock]); have Z1 := Aside0.mk z1; have r0 := (blk_cell z1 0).trans rfl; have r1 := (blk_cell z1 1).trans rfl; have s0 := blk_frozen z1 0; have s1 := blk_frozen z1 1; have y0 := (hb1.cell (p := ⟨g, o, none⟩) hg).trans X0.out; have y1 := (hb1.cell (p := ⟨g, o + 1, none⟩) hg).trans X1.out; have HOWN := Aside0.mk hown; have HB1 := Aside0.mk hb1; clear o1 z1 hown hb1 hg1 hat))
        all_goals
          go_wp2_with fail
          have bx := blk_set (blk_set (blk_far Z1.out (p := ⟨p, 3, none⟩) np' (.slice A1 xs.length n1)) 0 (.int .i64 x.f0)) 1 (.int .i64 x.f1)
          exact bodyPost_ret (v := .tuple #[refV x, .bool true]) (results_ct Try.results20 _ _ w.heap.size 33 _ (0, 0) _ rfl (by simpa using bx) Try.underlying33 rfl (by kernel_rfl)) rfl ⟨rfl, HP.out w1 _ HB1.out (blk_lt Z1.out) Z1.out HOWN.out⟩


set_option maxHeartbeats 2000000 in
set_option maxRecDepth 100000 in
theorem popb_cells3 (p g o cap : Nat) (x : S33) (xs : List S33) (A0 : Option Addr) (n0 : Nat) (A1 : Option Addr) (n1 : Nat) (A2 : Option Addr) (n2 : Nat) (w : World) (hp : p < w.heap.size) (hg : g < w.heap.size) (hgp : g ≠ p) (hcap : xs.length + 1 ≤ cap) (hm : xs.length ≤ 1000000) (ho : ∃ cur : Array Value, w.heap[p]? = some (.cells cur 55 (0, 0)) ∧ cur[4]? = some (.slice (some ⟨g, o, none⟩) (xs.length + 1) cap))
    (h0 : w.cell? ⟨p, 1, none⟩ = some (.slice A0 0 n0)) (h1 : w.cell? ⟨p, 2, none⟩ = some (.slice A1 0 n1)) (h2 : w.cell? ⟨p, 3, none⟩ = some (.slice A2 0 n2)) (h3 : w.cell? ⟨p, 4, none⟩ = some (.slice (some ⟨g, o, none⟩) (xs.length + 1) cap)) (x0 : w.cell? ⟨g, o, none⟩ = some (.int .i64 x.f0)) (x1 : w.cell? ⟨g, o + 1, none⟩ = some (.int .i64 x.f1))
    (hcut : ∀ W, Below w.heap.size w W → Kd.C k33 W (if cap = 1 then some ⟨g, o, none⟩ else some ⟨g, o + 2, none⟩) xs.length xs)
    (P : World → Prop) (hP : ∀ W v1, Below w.heap.size w W → w.heap.size < W.heap.size → W.heap[w.heap.size]? = some (.cells #[.int .i64 0, .int .i64 0] 33 (0, 0)) → Kd.R k33 33 W w.heap.size (fun k => k ≠ w.heap.size) v1 xs →
      P (((W.setCell ⟨p, 4, none⟩ v1).setCell ⟨w.heap.size, 0, none⟩ (.int .i64 x.f0)).setCell ⟨w.heap.size, 1, none⟩ (.int .i64 x.f1))) :
    Calls Try.prog 20 #[.pointer (some ⟨p, 0, none⟩)] w fun e w' => e = .returned (.tuple #[refV x, .bool true]) ∧ P w' := by
  have HP := Aside0.mk hP
  have HC := Aside0.mk hcut
  clear hP hcut
  obtain ⟨cur, o1, o2⟩ := ho
  obtain ⟨W, hW, hb, hlt, nz⟩ := zero_new w
  have NZ := Aside0.mk nz
  have OP := Aside0.mk (blk_below o1 hb)
  have OC := Aside0.mk o2
  have HB := Aside0.mk hb
  have h0 := (hb.cell (p := ⟨p, 1, none⟩) hp).trans h0
  have h1 := (hb.cell (p := ⟨p, 2, none⟩) hp).trans h1
  have h2 := (hb.cell (p := ⟨p, 3, none⟩) hp).trans h2
  have h3 := (hb.cell (p := ⟨p, 4, none⟩) hp).trans h3
  have X0 := Aside0.mk x0
  have X1 := Aside0.mk x1
  have l1 : (1 : Int) ≤ (xs.length : Int) + 1 := by omega
  have np : ¬ p = w.heap.size := by omega
  have np' : ¬ w.heap.size = p := by omega
  clear x0 x1 o1 o2 nz
  go_enter Try.func20, Try.ntmps20
  go_wp2_with fail
  clear hW
  go_loopw [4] (fun v4 wr => ∃ k : Nat, k ≤ 3 ∧ v4 = .int .i64 (k : Int) ∧ wr = W) (fun i _ => 4 - (intOf i).toNat)
  case atStart => exact ⟨0, by omega, rfl, rfl⟩
  case round =>
    obtain ⟨k, hk, rfl, rfl⟩ := hrel
    rcases (by omega : k = 0 ∨ k = 1 ∨ k = 2 ∨ k = 3) with rfl | rfl | rfl | rfl
    · go_wp2_with fail
      go_roundw
      case rel => exact ⟨1, by omega, by go_num, trivial⟩
      case measure => simp [intOf]
    · go_wp2_with fail
      go_roundw
      case rel => exact ⟨2, by omega, by go_num, trivial⟩
      case measure => simp [intOf]
    · go_wp2_with fail
      go_roundw
      case rel => exact ⟨3, by omega, by go_num, trivial⟩
      case measure => simp [intOf]
    · by_cases hc1 : cap = 1
      · subst hc1
        obtain rfl : xs = [] := List.length_eq_zero_iff.1 (by omega)
        have hcc := HC.out wr.drew (below_drew HB.out)
        simp only [if_true] at hcc
        have HCC := Aside0.mk hcc
        clear hcc
        go_wp2_with fail
        go_region_law (first | (refine Kd.R_append_rows_step k33 (w0 := w) (W := wr.drew) w.heap.size (by rfl) _ _ 44 33 (.agg #[.int .i64 0, .int .i64 0]) 16 (by rfl) Try.underlying44 info33 (by rfl) (by decide) (by decide) (.slice none 0 0) [] [] (some ⟨g, o, none⟩) 0 0 (fun k => k ≠ w.heap.size) (fun _ => False) (by rfl) (by rfl) (Kd.R_nil _ _ _ _ _) HCC.out (fun y cs hy => km _ _ _ _ y cs hy) (fun _ hk => hk.elim) (fun k hk => Nat.ne_of_gt (Nat.lt_of_lt_of_le hlt hk)) (below_drew HB.out) HB.out.size (by first | (simp; done) | (simp; omega)) ?_; intro v1 w1 hown hb1 hg1 hat; obtain ⟨A1, n1, rfl⟩ := Kd.R_slice hown; have o1 := blk_grown (blk_drew OP.out) hg1 (by simp [Value.ownBlock]); have O1 := Aside0.mk o1; have q1 := (blk_cell o1 4).trans OC.out; have qf := blk_frozen o1 4; have z1 := blk_grown (blk_drew NZ.out) hg1 (by simp [Value.ownBlock]); have Z1 := Aside0.mk z1; have r0 := (blk_cell z1 0).trans rfl; have r1 := (blk_cell z1 1).trans rfl; have s0 := blk_frozen z1 0; have s1 := blk_frozen z1 1; have y0 := (hb1.cell (p := ⟨g, o, none⟩) hg).trans X0.out; have y1 := (hb1.cell (p := ⟨g, o + 1, none⟩) hg).trans X1.out; have HOWN := Aside0.mk hown; have HB1 := Aside0.mk hb1; clear o1 z1 hown hb1 hg1 hat))
        all_goals
          go_wp2_with fail
          have bx := blk_set (blk_set (blk_far Z1.out (p := ⟨p, 4, none⟩) np' (.slice A1 0 n1)) 0 (.int .i64 x.f0)) 1 (.int .i64 x.f1)
          exact bodyPost_ret (v := .tuple #[refV x, .bool true]) (results_ct Try.results20 _ _ w.heap.size 33 _ (0, 0) _ rfl (by simpa using bx) Try.underlying33 rfl (by kernel_rfl)) rfl ⟨rfl, HP.out w1 _ HB1.out (blk_lt Z1.out) Z1.out HOWN.out⟩
      · have hcc := HC.out wr.drew (below_drew HB.out)
        rw [if_neg hc1] at hcc
        have HCC := Aside0.mk hcc
        clear hcc
        go_wp2_with fail
        go_region_law (first | (refine Kd.R_append_rows_step k33 (w0 := w) (W := wr.drew) w.heap.size (by rfl) _ _ 44 33 (.agg #[.int .i64 0, .int .i64 0]) 16 (by rfl) Try.underlying44 info33 (by rfl) (by decide) (by decide) (.slice none 0 0) [] xs (some ⟨g, o + 2, none⟩) xs.length (cap - 1) (fun k => k ≠ w.heap.size) (fun _ => False) (by rfl) (by rfl) (Kd.R_nil _ _ _ _ _) HCC.out (fun y cs hy => km _ _ _ _ y cs hy) (fun _ hk => hk.elim) (fun k hk => Nat.ne_of_gt (Nat.lt_of_lt_of_le hlt hk)) (below_drew HB.out) HB.out.size (by first | (simp; done) | (simp; omega)) ?_; intro v1 w1 hown hb1 hg1 hat; obtain ⟨A1, n1, rfl⟩ := Kd.R_slice hown; have o1 := blk_grown (blk_drew OP.out) hg1 (by simp [Value.ownBlock]); have O1 := Aside0.mk o1; have q1 := (blk_cell o1 4).trans OC.out; have qf := blk_frozen o1 4; have z1 := blk_grown (blk_drew NZ.out) hg1 (by simp [Value.ownBlock]); have Z1 := Aside0.mk z1; have r0 := (blk_cell z1 0).trans rfl; have r1 := (blk_cell z1 1).trans rfl; have s0 := blk_frozen z1 0; have s1 := blk_frozen z1 1; have y0 := (hb1.cell (p := ⟨g, o, none⟩) hg).trans X0.out; have y1 := (hb1.cell (p := ⟨g, o + 1, none⟩) hg).trans X1.out; have HOWN := Aside0.mk hown; have HB1 := Aside0.mk hb1; clear o1 z1 hown hb1 hg1 hat))
        all_goals
          go_wp2_with fail
          have bx := blk_set (blk_set (blk_far Z1.out (p := ⟨p, 4, none⟩) np' (.slice A1 xs.length n1)) 0 (.int .i64 x.f0)) 1 (.int .i64 x.f1)
          exact bodyPost_ret (v := .tuple #[refV x, .bool true]) (results_ct Try.results20 _ _ w.heap.size 33 _ (0, 0) _ rfl (by simpa using bx) Try.underlying33 rfl (by kernel_rfl)) rfl ⟨rfl, HP.out w1 _ HB1.out (blk_lt Z1.out) Z1.out HOWN.out⟩


set_option maxHeartbeats 1000000 in
set_option maxRecDepth 100000 in
theorem popb_nil (w : World) : Calls Try.prog 20 #[.pointer none] w fun e w' => e = .returned (.tuple #[.agg #[.int .i64 0, .int .i64 0], .bool false]) ∧ Below w.heap.size w w' := by
  go_enter Try.func20, Try.ntmps20
  go_wp2_with fail
  go_loopw [4] (fun v4 wr => v4 = .int .i64 0 ∧ wr = w.alloc (.cells #[.int .i64 0, .int .i64 0] 33)) (fun i _ => 0)
  case atStart => exact ⟨rfl, rfl⟩
  case round =>
    obtain ⟨rfl, rfl⟩ := hrel
    go_wp2_with fail
    exact bodyPost_ret (v := .tuple #[.agg #[.int .i64 0, .int .i64 0], .bool false]) (by simp [results, Try.results20, go_sem]) rfl ⟨rfl, below_alloc (Below.refl _ _) _⟩

set_option maxHeartbeats 1000000 in
set_option maxRecDepth 100000 in
theorem popb_none_cells (p n0 n1 n2 n3 : Nat) (A0 A1 A2 A3 : Option Addr) (w : World) (hp : p < w.heap.size)
    (h0 : w.cell? ⟨p, 1, none⟩ = some (.slice A0 0 n0)) (h1 : w.cell? ⟨p, 2, none⟩ = some (.slice A1 0 n1)) (h2 : w.cell? ⟨p, 3, none⟩ = some (.slice A2 0 n2)) (h3 : w.cell? ⟨p, 4, none⟩ = some (.slice A3 0 n3)) :
    Calls Try.prog 20 #[.pointer (some ⟨p, 0, none⟩)] w fun e w' => e = .returned (.tuple #[.agg #[.int .i64 0, .int .i64 0], .bool false]) ∧ Below w.heap.size w w' := by
  have hb := below_alloc (Below.refl w.heap.size w) (.cells #[.int .i64 0, .int .i64 0] 33)
  have h0 := (hb.cell (p := ⟨p, 1, none⟩) hp).trans h0
  have h1 := (hb.cell (p := ⟨p, 2, none⟩) hp).trans h1
  have h2 := (hb.cell (p := ⟨p, 3, none⟩) hp).trans h2
  have h3 := (hb.cell (p := ⟨p, 4, none⟩) hp).trans h3
  clear hb
  go_enter Try.func20, Try.ntmps20
  go_wp2_with fail
  go_loopw [4] (fun v4 wr => ∃ k : Nat, k ≤ 4 ∧ v4 = .int .i64 (k : Int) ∧ wr = w.alloc (.cells #[.int .i64 0, .int .i64 0] 33)) (fun i _ => 4 - (intOf i).toNat)
  case atStart => exact ⟨0, by omega, rfl, rfl⟩
  case round =>
    obtain ⟨k, hk, rfl, rfl⟩ := hrel
    rcases (by omega : k = 0 ∨ k = 1 ∨ k = 2 ∨ k = 3 ∨ k = 4) with rfl | rfl | rfl | rfl | rfl
    · go_wp2_with fail
      go_roundw
      case rel => exact ⟨1, by omega, by go_num, trivial⟩
      case measure => simp [intOf]
    · go_wp2_with fail
      go_roundw
      case rel => exact ⟨2, by omega, by go_num, trivial⟩
      case measure => simp [intOf]
    · go_wp2_with fail
      go_roundw
      case rel => exact ⟨3, by omega, by go_num, trivial⟩
      case measure => simp [intOf]
    · go_wp2_with fail
      go_roundw
      case rel => exact ⟨4, by omega, by go_num, trivial⟩
      case measure => simp [intOf]
    · go_wp2_with fail
      exact bodyPost_ret (v := .tuple #[.agg #[.int .i64 0, .int .i64 0], .bool false]) (by simp [results, Try.results20, go_sem]) rfl ⟨rfl, below_alloc (Below.refl _ _) _⟩

theorem popb_none {w0 w : World} {p : Nat} {c : Int} {F : Nat → Prop} {L : Nat → List S33} (h : Ij 55 w0 w p c F L) (he : ∀ b, b < 4 → L b = []) :
    Calls Try.prog 20 #[.pointer (some ⟨p, 0, none⟩)] w fun e w' => e = .returned (.tuple #[.agg #[.int .i64 0, .int .i64 0], .bool false]) ∧ Below w.heap.size w w' := by
  obtain ⟨A0, n0, h0⟩ := h.cell 0 (by omega)
  obtain ⟨A1, n1, h1⟩ := h.cell 1 (by omega)
  obtain ⟨A2, n2, h2⟩ := h.cell 2 (by omega)
  obtain ⟨A3, n3, h3⟩ := h.cell 3 (by omega)
  rw [he 0 (by omega)] at h0
  rw [he 1 (by omega)] at h1
  rw [he 2 (by omega)] at h2
  rw [he 3 (by omega)] at h3
  exact popb_none_cells p n0 n1 n2 n3 A0 A1 A2 A3 w h.lt h0 h1 h2 h3

theorem popb_ok {w0 w : World} {p b : Nat} {c : Int} {F : Nat → Prop} {L : Nat → List S33} {x : S33} {xs : List S33} (h : Ij 55 w0 w p c F L) (hB : Below w0.heap.size w0 w) (hb4 : b < 4) (he : ∀ j, j < b → L j = []) (hx : L b = x :: xs) (ht : tot L ≤ 1000000) :
    Calls Try.prog 20 #[.pointer (some ⟨p, 0, none⟩)] w fun e w' => e = .returned (.tuple #[refV x, .bool true]) ∧ Ij 55 w0 w' p c F (upd L b xs) ∧ Below w0.heap.size w0 w' ∧ Kept w w' (fun k => k = p ∨ F k) := by
  have hp := h.lt
  have htb := tot_le L b hb4
  obtain ⟨vs, h1, h2, h3⟩ := h.row
  obtain ⟨g, o, cap, ev, hbase, hglt, _⟩ := Kd.Q_form (h2 b hb4) (by rw [hx]; simp)
  have hQ := h2 b hb4
  rw [ev, hx] at hQ
  rw [hx] at ev htb
  simp only [List.length_cons] at ev htb
  have hcap := (Kd.Q_reads' hQ).2.1
  obtain ⟨x0, x1⟩ := first_cells hQ
  have hcut := cut_is hQ
  simp only [List.length_cons] at hcap
  have hgp : g ≠ p := fun e => h.out (by have := (h2 b hb4).1 g (by rw [ev]; rfl); rwa [e] at this)
  have hc : ∀ j, j < 4 → w.cell? ⟨p, 1 + j, none⟩ = some (vs j) := fun j hj => by rw [blk_cell h1]; exact arr5 _ vs j hj
  have hlow : ∀ j, j < b → ∃ A n, vs j = .slice A 0 n := fun j hj => by
    obtain ⟨A, n, e, _⟩ := Kd.Q_slice (h2 j (by omega))
    rw [he j hj] at e
    exact ⟨A, n, e⟩
  have hP : ∀ W v1, Below w.heap.size w W → w.heap.size < W.heap.size → W.heap[w.heap.size]? = some (.cells #[.int .i64 0, .int .i64 0] 33 (0, 0)) → Kd.R k33 33 W w.heap.size (fun k => k ≠ w.heap.size) v1 xs →
      (fun w' => Ij 55 w0 w' p c F (upd L b xs) ∧ Below w0.heap.size w0 w' ∧ Kept w w' (fun k => k = p ∨ F k))
      (((W.setCell ⟨p, b + 1, none⟩ v1).setCell ⟨w.heap.size, 0, none⟩ (.int .i64 x.f0)).setCell ⟨w.heap.size, 1, none⟩ (.int .i64 x.f1)) := by
    intro W v1 hb hlt nz hr
    rw [show b + 1 = 1 + b by omega]
    obtain ⟨e1, e2, e3, _⟩ := pop_leaves x h hB hb4 h1 h2 h3 hb hlt nz (Kd.Q_of_R (Kd.R_lower (Kd.R_mono (Kd.R_bound hr) (fun k hk => ⟨h.fresh k hk.2.1, hk.1⟩)) hB.size)) (fun j hj hjb k e1 e2 => by
      have g1 := Kd.R_base hr k e1
      have g2 := Kd.Q_lt (h2 j hj) k e2.symm
      omega)
    exact ⟨e1, e2, e3⟩
  have hcw : ∀ W, Below w.heap.size w W → Kd.C k33 W (if cap = 1 then some ⟨g, o, none⟩ else some ⟨g, o + 2, none⟩) xs.length xs := fun W hW => Kd.C_below (Kd.Q_reads' hcut).2.2 hW
  have ho : ∃ cur : Array Value, w.heap[p]? = some (.cells cur 55 (0, 0)) ∧ cur[b + 1]? = some (.slice (some ⟨g, o, none⟩) (xs.length + 1) cap) := ⟨_, h1, by rw [show b + 1 = 1 + b by omega, arr5 _ vs b hb4, ev]⟩
  match b, hb4 with
  | 0, _ =>
    have c0 := hc 0 (by omega); rw [ev] at c0
    exact popb_cells0 p g o cap x xs (vs 1) (vs 2) (vs 3) w hp hglt hgp hcap (by omega) ho c0 (hc 1 (by omega)) (hc 2 (by omega)) (hc 3 (by omega)) x0 x1 hcw _ hP
  | 1, _ =>
    obtain ⟨A0, n0, ev0⟩ := hlow 0 (by omega)
    have c0 := hc 0 (by omega); rw [ev0] at c0
    have c1 := hc 1 (by omega); rw [ev] at c1
    exact popb_cells1 p g o cap x xs A0 n0 (vs 2) (vs 3) w hp hglt hgp hcap (by omega) ho c0 c1 (hc 2 (by omega)) (hc 3 (by omega)) x0 x1 hcw _ hP
  | 2, _ =>
    obtain ⟨A0, n0, ev0⟩ := hlow 0 (by omega)
    obtain ⟨A1, n1, ev1⟩ := hlow 1 (by omega)
    have c0 := hc 0 (by omega); rw [ev0] at c0
    have c1 := hc 1 (by omega); rw [ev1] at c1
    have c2 := hc 2 (by omega); rw [ev] at c2
    exact popb_cells2 p g o cap x xs A0 n0 A1 n1 (vs 3) w hp hglt hgp hcap (by omega) ho c0 c1 c2 (hc 3 (by omega)) x0 x1 hcw _ hP
  | 3, _ =>
    obtain ⟨A0, n0, ev0⟩ := hlow 0 (by omega)
    obtain ⟨A1, n1, ev1⟩ := hlow 1 (by omega)
    obtain ⟨A2, n2, ev2⟩ := hlow 2 (by omega)
    have c0 := hc 0 (by omega); rw [ev0] at c0
    have c1 := hc 1 (by omega); rw [ev1] at c1
    have c2 := hc 2 (by omega); rw [ev2] at c2
    have c3 := hc 3 (by omega); rw [ev] at c3
    exact popb_cells3 p g o cap x xs A0 n0 A1 n1 A2 n2 w hp hglt hgp hcap (by omega) ho c0 c1 c2 c3 x0 x1 hcw _ hP

end Go.Proofs.Ytfneiocgjoalkaa.Rf
