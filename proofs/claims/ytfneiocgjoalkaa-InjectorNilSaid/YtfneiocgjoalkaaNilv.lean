/- 'InjectorNil' returns true for all integers: what a nil and a zero injector answer, and that lists are new memory. No conditions. This text: the walk of the law. -/
import Derived.Test.YtfneiocgjoalkaaTp
namespace Go.Proofs.Ytfneiocgjoalkaa.Nilv
open Go.RowKit Go.Proofs.YtfneiocgjoalkaaW.PrintWords Go.Proofs.YtfneiocgjoalkaaW.PrintLast Go.Proofs.YtfneiocgjoalkaaW.PrintMore
open Go.Proofs.Ytfneiocgjoalkaa.PInjectorFollows
open Go.Proofs.Ytfneiocgjoalkaa.Ij Go.Proofs.Ytfneiocgjoalkaa.Tp
set_option linter.unusedVariables false
attribute [local go_sem] refV

set_option maxHeartbeats 1000000 in
set_option maxRecDepth 100000 in
theorem remove_nil (job : Int) (w : World) : Calls Try.prog 18 #[.pointer none, .int .i64 job] w fun e w' => e = .returned (.int .i64 0) ∧ Below w.heap.size w w' := by
  go_enter Try.func18, Try.ntmps18
  go_wp2_with fail
  go_ret
  exact ⟨rfl, below_alloc (Below.refl _ _) _⟩

theorem list_zero {w0 w : World} {p : Nat} {c : Int} {F : Nat → Prop} (b : Int) (h : Ij 49 w0 w p c F (fun _ => [])) :
    Calls Try.prog 22 #[.pointer (some ⟨p, 0, none⟩), .int .i64 b] w fun e w' => (∃ A n, e = .returned (.slice A 0 n)) ∧ Below w.heap.size w w' := by
  by_cases hb : 0 ≤ b ∧ b < 4
  · obtain ⟨b, rfl⟩ := Int.eq_ofNat_of_zero_le hb.1
    refine (list_ok (b := b) h (by omega) (by simp [tot])).mono ?_
    rintro e w' ⟨v, rfl, r, bl⟩
    obtain ⟨A, n, rfl⟩ := Kd.R_slice r
    exact ⟨⟨A, n, rfl⟩, bl⟩
  · refine (list_bad p b w hb).mono ?_
    rintro e w' ⟨rfl, bl⟩
    exact ⟨⟨_, _, rfl⟩, bl⟩

/-- The rows of an elder world lie in no block that was made since. -/
theorem skips {T : TypeId} {w0 w W : World} {p g : Nat} {c : Int} {F : Nat → Prop} {L : Nat → List S33} (h : Ij T w0 w p c F L) (hb : Below w.heap.size w W) (hg : w.heap.size ≤ g) (hW : g < W.heap.size) : Ij T w0 W p c (fun k => F k ∧ k ≠ g) L := by
  have hp := h.lt
  obtain ⟨vs, h1, h2, h3⟩ := h.row
  exact ⟨⟨vs, blk_below h1 hb, fun b hb4 => Kd.Q_below (Kd.Q_mono (Kd.Q_bound (h2 b hb4)) (fun k hk => ⟨hk.1, by have := hk.2.2.1; omega⟩)) hb, h3⟩, h.pw, fun hh => h.out hh.1, fun k hk => ⟨h.fresh k (by omega), by omega⟩⟩

theorem first_row {w : World} {base g n cap : Nat} {ok : Nat → Prop} {x : S33} {xs : List S33} (h : Kd.R k33 33 w base ok (.slice (some ⟨g, 0, none⟩) n cap) (x :: xs)) :
    w.cell? ⟨g, 0, none⟩ = some (.int .i64 x.f0) := (first_cells (Kd.Q_of_R h)).1

theorem ij_zero (T : TypeId) {w0 w : World} (hB : Below w0.heap.size w0 w) : Ij T w0 (w.alloc (.cells #[.int .i64 0, .slice none 0 0, .slice none 0 0, .slice none 0 0, .slice none 0 0] T)) w.heap.size 0 (fun k => k ≠ w.heap.size ∧ w.heap.size ≤ k) (fun _ => []) := ij_new T 0 hB

set_option maxHeartbeats 4000000 in
set_option maxRecDepth 100000 in
theorem walk (band job : Int) (w : World) : Calls Try.prog 5 #[.int .i64 band, .int .i64 job] w fun e w' => e = .returned (.bool true) ∧ Below w.heap.size w w' := by
  go_enter Try.func5, Try.ntmps5
  go_wp2_with fail
  refine (new_ok (w0 := w) 5 (by omega) (by omega) (Below.refl _ _)).mono ?_
  rintro e w1 ⟨p, rfl, h1, hp, b1⟩
  have H1 := Aside0.mk h1
  have B1 := Aside0.mk b1
  clear h1 b1
  go_wp2_with fail
  refine (push_ok (b := 1) ⟨1, 0⟩ H1.out B1.out (by omega) (by simp [tot]) (by simp [tot])).mono ?_
  rintro e w2 ⟨rfl, h2, b2, _⟩
  generalize hL : upd (fun _ => []) 1 ((fun _ => []) 1 ++ [(⟨1, 0⟩ : S33)]) = L at *
  have ht : tot L = 1 := by rw [← hL]; simp [tot, upd]
  have hL1 : L 1 = [⟨1, 0⟩] := by rw [← hL]; simp [upd]
  have H2 := Aside0.mk h2
  have B2 := Aside0.mk b2
  have hpl := h2.lt
  clear h2 b2 H1 B1 hL
  go_wp2_with fail
  refine (list_ok (b := 1) H2.out (by omega) (by omega)).mono ?_
  rw [hL1]
  rintro e w3 ⟨v, rfl, r, b3⟩
  obtain ⟨g, cap, rfl, hgb, hgl, _⟩ := Kd.R_form r (by simp)
  have HI := Aside0.mk (skips H2.out b3 hgb hgl)
  have HB := Aside0.mk (below_then B2.out B2.out.size b3)
  have x0 := first_row r
  obtain ⟨cur, ho⟩ : ∃ cur, w3.heap[g]? = some (.cells cur 33 (0, 0)) := by
    obtain ⟨cur, hcur⟩ := Kd.R_typed r g rfl
    exact ⟨cur, hcur⟩
  have f0 : w3.frozen? ⟨g, 0, none⟩ = false := blk_frozen ho 0
  have hgp : g ≠ p := by omega
  have hgw : w.heap.size ≤ g := by have := B2.out.size; omega
  clear r b3 H2 B2 ho
  go_wp2_with fail
  go_loopw [8] (fun v8 wr => ∃ k : Nat, k ≤ 1 ∧ v8 = .int .i64 (k : Int) ∧ (k = 0 → (∃ u, wr.cell? ⟨g, 0, none⟩ = some u) ∧ wr.frozen? ⟨g, 0, none⟩ = false) ∧ Aside0 (Ij 49 w wr p 5 (fun k => (k ≠ p ∧ w.heap.size ≤ k) ∧ k ≠ g) L) ∧ Aside0 (Below w.heap.size w wr)) (fun i _ => 1 - (intOf i).toNat)
  case atStart => exact ⟨0, by omega, rfl, fun _ => ⟨⟨_, x0⟩, f0⟩, HI, HB⟩
  case round =>
    clear HI HB x0 f0
    obtain ⟨k, hk, rfl, hx, HI, HB⟩ := hrel
    rcases (by omega : k = 0 ∨ k = 1) with rfl | rfl
    · obtain ⟨⟨u, x0⟩, f0⟩ := hx rfl
      go_wp2_with fail
      go_roundw
      case rel =>
        refine ⟨1, by omega, by go_num, fun h => by simp at h, ⟨HI.out.kept ((Kept.refl wr (fun k => k = g)).setCell (p := ⟨g, 0, none⟩) (.inl rfl) _) (Ne.symm hgp) (fun k hk => hk.2)⟩, ⟨HB.out.setCell (p := ⟨g, 0, none⟩) hgw _⟩⟩
      case measure => simp [intOf]
    · clear hx
      have bz := below_alloc (Below.refl wr.heap.size wr) (.cells #[.int .i64 0, .slice none 0 0, .slice none 0 0, .slice none 0 0, .slice none 0 0] 49)
      have Z1 := Aside0.mk (ij_zero 49 HB.out)
      have H1 := Aside0.mk (HI.out.below bz)
      have B1 := Aside0.mk (below_then HB.out HB.out.size bz)
      clear HI HB bz
      go_wp2_with fail
      generalize wr.alloc (.cells #[.int .i64 0, .slice none 0 0, .slice none 0 0, .slice none 0 0, .slice none 0 0] 49) = w1 at *
      generalize wr.heap.size = pz at *
      refine (pop_nil w1).mono ?_
      rintro e w2 ⟨rfl, b2⟩
      have b3 := below_alloc b2 (.cells #[.int .i64 0, .int .i64 0] 33)
      have Z2 := Aside0.mk (Z1.out.below b3)
      have H2 := Aside0.mk (H1.out.below b3)
      have B2 := Aside0.mk (below_then B1.out B1.out.size b3)
      clear b2 b3 Z1 H1 B1
      go_wp2_with fail
      refine (pop_none Z2.out (fun _ _ => rfl)).mono ?_
      rintro e w4 ⟨rfl, b4⟩
      have b5 := below_alloc b4 (.cells #[.int .i64 0, .int .i64 0] 33)
      have Z3 := Aside0.mk (Z2.out.below b5)
      have H3 := Aside0.mk (H2.out.below b5)
      have B3 := Aside0.mk (below_then B2.out B2.out.size b5)
      clear b4 b5 Z2 H2 B2
      go_wp2_with fail
      refine (push_nil ⟨0, 0⟩ band _).mono ?_
      rintro e w6 ⟨rfl, b6⟩
      have Z4 := Aside0.mk (Z3.out.below b6)
      have H4 := Aside0.mk (H3.out.below b6)
      have B4 := Aside0.mk (below_then B3.out B3.out.size b6)
      clear b6 Z3 H3 B3
      go_wp2_with fail
      refine (push_zero pz ⟨0, 0⟩ band _ Z4.out.lt Z4.out.c0).mono ?_
      rintro e w7 ⟨rfl, b7⟩
      have Z5 := Aside0.mk (Z4.out.below b7)
      have H5 := Aside0.mk (H4.out.below b7)
      have B5 := Aside0.mk (below_then B4.out B4.out.size b7)
      clear b7 Z4 H4 B4
      go_wp2_with fail
      refine (list_ok (b := 1) H5.out (by omega) (by omega)).mono ?_
      rw [hL1]
      rintro e w8 ⟨v, rfl, r, b8⟩
      obtain ⟨g2, cap2, rfl, hgb2, hgl2, _⟩ := Kd.R_form r (by simp)
      have y0 := first_row r
      have Z6 := Aside0.mk (Z5.out.below b8)
      have B6 := Aside0.mk (below_then B5.out B5.out.size b8)
      clear r b8 Z5 H5 B5
      go_wp2_with fail
      refine (len_nil _).mono ?_
      rintro e w9 ⟨rfl, rfl⟩
      go_wp2_with fail
      refine (remove_nil job _).mono ?_
      rintro e w9 ⟨rfl, b9⟩
      have Z7 := Aside0.mk (Z6.out.below b9)
      have B7 := Aside0.mk (below_then B6.out B6.out.size b9)
      clear b9 Z6 B6
      go_wp2_with fail
      refine (list_zero band Z7.out).mono ?_
      rintro e w10 ⟨⟨A10, n10, rfl⟩, b10⟩
      have B8 := Aside0.mk (below_then B7.out B7.out.size b10)
      clear b10 Z7 B7
      go_wp2_with fail
      refine (sane_calls _).mono ?_
      rintro e w11 ⟨rfl, b11⟩
      go_wp2_with fail
      go_ret
      exact ⟨rfl, below_then B8.out B8.out.size b11⟩

theorem law (a0 a1 : Int) (w : World) : Calls Try.prog 5 #[.int .i64 a0, .int .i64 a1] w fun e w' => e = .returned (.bool true) ∧ Below w.heap.size w w' := walk a0 a1 w

end Go.Proofs.Ytfneiocgjoalkaa.Nilv
