/- The tape's choices in bounds; the sanity check of the chapter's example, walked. -/
import Derived.Test.YtfneiocgjoalkaaIj4
namespace Go.Proofs.Ytfneiocgjoalkaa.Tp
open Go.RowKit Go.Proofs.YtfneiocgjoalkaaW.PrintWords Go.Proofs.YtfneiocgjoalkaaW.PrintLast Go.Proofs.YtfneiocgjoalkaaW.PrintMore
open Go.Proofs.Ytfneiocgjoalkaa.PInjectorFollows
open Go.Proofs.Ytfneiocgjoalkaa.Ij
set_option linter.unusedVariables false

theorem wrap_of (n : Int) (h : -9223372036854775808 ≤ n ∧ n ≤ 9223372036854775807) : wrap64 n = n := by
  unfold wrap64
  omega

theorem mod_is (a n : Int) (hn : 0 < n) (hb : n ≤ 4611686018427387904) : ∃ r, tilefarmgen_Mod.f a n = some r ∧ 0 ≤ r ∧ r < n := by
  have h1 := Int.tmod_lt_of_pos a hn
  have h2 : -n < Int.tmod a n := by
    have := Int.tmod_lt_of_pos (-a) hn
    rw [Int.neg_tmod] at this
    omega
  unfold tilefarmgen_Mod.f
  rw [if_neg (by omega)]
  split
  · rw [wrap_of _ ⟨by omega, by omega⟩]
    exact ⟨_, rfl, by omega, by omega⟩
  · exact ⟨_, rfl, by omega, by omega⟩

theorem next_is (l : List Int) (i n : Int) (hl : l.length ≤ 9223372036854775807) (h0 : 0 ≤ i) (h1 : i ≤ l.length) (hn : 1 ≤ n) (hb : n ≤ 4611686018427387904) :
    ∃ r j, tilefarmgen_Tape_Next.f l i n = some (r, j) ∧ 0 ≤ r ∧ r < n ∧ 0 ≤ j ∧ j ≤ l.length := by
  unfold tilefarmgen_Tape_Next.f
  rw [if_neg (by omega)]
  by_cases c : i ≥ (l.length : Int)
  · rw [if_pos c]
    exact ⟨0, i, rfl, by omega, by omega, h0, h1⟩
  · rw [if_neg c, wrap_of (i + 1) ⟨by omega, by omega⟩, wrap_of (i + 1 - 1) ⟨by omega, by omega⟩, if_pos (by omega), if_pos (by omega)]
    obtain ⟨r, hr, r0, r1⟩ := mod_is (rd l (i + 1 - 1)) n (by omega) hb
    rw [hr]
    exact ⟨r, i + 1, rfl, r0, r1, by omega, by omega⟩

theorem pick_is (l m : List Int) (i : Int) (hl : l.length ≤ 9223372036854775807) (h0 : 0 ≤ i) (h1 : i ≤ l.length) (hm : 1 ≤ m.length) (hb : m.length ≤ 100) :
    ∃ r j, tilefarmgen_Tape_Pick.f l i m = some (r, j) ∧ r ∈ m ∧ 0 ≤ j ∧ j ≤ l.length := by
  obtain ⟨r, j, e, r0, r1, j0, j1⟩ := next_is l i m.length hl h0 h1 (by omega) (by omega)
  unfold tilefarmgen_Tape_Pick.f
  rw [e]
  simp only [Option.bind_some]
  rw [if_pos r0, if_pos r1]
  refine ⟨_, _, rfl, ?_, j0, j1⟩
  obtain ⟨q, rfl⟩ := Int.eq_ofNat_of_zero_le r0
  have hq : q < m.length := by omega
  simp [rd, hq]

/-- A tape at block g over the list l, somewhere on it. -/
def OnTape (w0 w : World) (g : Nat) (l : List Int) : Prop := ∃ i, IsS52 w0 w g l i ∧ 0 ≤ i ∧ i ≤ l.length

theorem OnTape.kept {w0 w w1 : World} {g : Nat} {l : List Int} {S : Nat → Prop} (h : OnTape w0 w g l) (hk : Kept w w1 S) (hg : ¬ S g) : OnTape w0 w1 g l := by
  obtain ⟨i, h1, h2⟩ := h
  exact ⟨i, h1.kept hk hg, h2⟩
theorem OnTape.below {w0 w w1 : World} {g : Nat} {l : List Int} (h : OnTape w0 w g l) (hb : Below w.heap.size w w1) : OnTape w0 w1 g l := h.kept (Kept.of_below hb (fun _ => False)) id
theorem OnTape.lt {w0 w : World} {g : Nat} {l : List Int} (h : OnTape w0 w g l) : g < w.heap.size := by
  obtain ⟨i, h1, h2⟩ := h
  exact h1.lt
theorem OnTape.ge {w0 w : World} {g : Nat} {l : List Int} (h : OnTape w0 w g l) : w0.heap.size ≤ g := by
  obtain ⟨i, h1, h2⟩ := h
  exact h1.ge
theorem kept_of_keep {w w1 : World} {g : Nat} (h : KeepBut w w1 g none) : Kept w w1 (fun k => k = g) := ⟨h.1, fun i hi hn => h.2 i hi hn (by simp)⟩

theorem next_calls {w0 w : World} {g : Nat} {l : List Int} (n : Int) (h : OnTape w0 w g l) (hB : Below w0.heap.size w0 w) (hl : l.length ≤ 9223372036854775807) (hn : 1 ≤ n) (hb : n ≤ 4611686018427387904) :
    Calls Try.prog 9 #[.pointer (some ⟨g, 0, none⟩), .int .i64 n] w fun e w' => ∃ r : Int, e = .returned (.int .i64 r) ∧ 0 ≤ r ∧ r < n ∧ OnTape w0 w' g l ∧ Below w0.heap.size w0 w' ∧ Kept w w' (fun k => k = g) := by
  obtain ⟨i, h1, h2, h3⟩ := h
  obtain ⟨r, j, e, r0, r1, j0, j1⟩ := next_is l i n hl h2 h3 hn hb
  refine (tilefarmgen_Tape_Next.calls g l i n r j w0 w h1 hB e).mono ?_
  rintro e w' ⟨he, a, b, c⟩
  exact ⟨r, he, r0, r1, ⟨j, a, j0, j1⟩, b, kept_of_keep c⟩

/-- The block of a list that is written out in the text. -/
theorem ints_block {w : World} {b : Nat} (xs : List Int) (h : w.heap[b]? = some (.cells (xs.map (Value.int .i64)).toArray 3 (0, 0))) (hx : xs.length ≤ 100) : Kd.C (Kd.int .i64) w (some ⟨b, 0, none⟩) xs.length xs := by
  refine Kd.C_of_reads (enc := Value.int .i64) (d := (0 : Int)) (h1 := fun _ => rfl) ⟨rfl, by omega, fun _ => ⟨_, rfl, fun i hi => ?_⟩⟩
  rw [add_plain, blk_cell h i]
  simp [List.getD_eq_getElem?_getD, hi]

theorem pick_calls {w0 w : World} {g b : Nat} {l : List Int} (xs : List Int) (h : OnTape w0 w g l) (hB : Below w0.heap.size w0 w) (hl : l.length ≤ 9223372036854775807) (h1 : 1 ≤ xs.length) (h2 : xs.length ≤ 100)
    (hb : w.heap[b]? = some (.cells (xs.map (Value.int .i64)).toArray 3 (0, 0))) (hg : b ≠ g) :
    Calls Try.prog 16 #[.pointer (some ⟨g, 0, none⟩), .slice (some ⟨b, 0, none⟩) xs.length xs.length] w fun e w' => ∃ r : Int, e = .returned (.int .i64 r) ∧ r ∈ xs ∧ OnTape w0 w' g l ∧ Below w0.heap.size w0 w' ∧ Kept w w' (fun k => k = g) := by
  obtain ⟨i, q1, q2, q3⟩ := h
  obtain ⟨r, j, e, r0, j0, j1⟩ := pick_is l xs i hl q2 q3 h1 h2
  refine (tilefarmgen_Tape_Pick.calls g l i (some ⟨b, 0, none⟩) xs.length xs r j w0 w q1 hB (ints_block xs hb h2) (Nat.le_refl _) (fun ad ha _ => by injection ha with ha; subst ha; exact hg) e).mono ?_
  rintro e w' ⟨he, a, b, c⟩
  exact ⟨r, he, r0, ⟨j, a, j0, j1⟩, b, kept_of_keep c⟩

theorem left_calls {w0 w : World} {g : Nat} {l : List Int} (h : OnTape w0 w g l) (hB : Below w0.heap.size w0 w) :
    Calls Try.prog 15 #[.pointer (some ⟨g, 0, none⟩)] w fun e w' => ∃ r : Bool, e = .returned (.bool r) ∧ OnTape w0 w' g l ∧ Below w0.heap.size w0 w' ∧ Kept w w' (fun k => k = g) := by
  obtain ⟨i, h1, h2, h3⟩ := h
  refine (tilefarmgen_Tape_Left.calls g l i _ i w0 w h1 hB rfl).mono ?_
  rintro e w' ⟨he, a, b, c⟩
  exact ⟨_, he, ⟨i, a, h2, h3⟩, b, kept_of_keep c⟩

theorem tape_new {w : World} {A : Option Addr} {c : Nat} {l : List Int} (h : Kd.C (Kd.int .i64) w A l.length l) (hc : l.length ≤ c) :
    Calls Try.prog 6 #[.slice A l.length c] w fun e w' => ∃ g, e = .returned (.pointer (some ⟨g, 0, none⟩)) ∧ OnTape w w' g l ∧ Below w.heap.size w w' := by
  refine (tilefarmgen_New.calls A c l l 0 w w (Below.refl _ _) h hc rfl).mono ?_
  rintro e w' ⟨g, he, a, b, _⟩
  exact ⟨g, he, ⟨0, a, by omega, by omega⟩, b⟩

attribute [local go_sem] refV

def L0 : Nat → List S33 := fun _ => []

set_option maxHeartbeats 2000000 in
set_option maxRecDepth 100000 in
theorem sane_calls (w : World) : Calls Try.prog 13 #[] w fun e w' => e = .returned (.bool true) ∧ Below w.heap.size w w' := by
  go_enter Try.func13, Try.ntmps13
  go_wp2_with fail
  refine (new_ok (w0 := w) 3 (by omega) (by omega) (Below.refl _ _)).mono ?_
  rintro e w1 ⟨p, rfl, h1, hp, b1⟩
  have H1 := Aside0.mk h1
  have B1 := Aside0.mk b1
  clear h1 b1
  go_wp2_with fail
  refine (push_ok (b := 2) ⟨0, 1⟩ H1.out B1.out (by omega) (by simp [tot]) (by simp [tot])).mono ?_
  rintro e w2 ⟨rfl, h2, b2, _⟩
  have H2 : Aside0 (Ij 49 w w2 p 3 (fun k => k ≠ p ∧ w.heap.size ≤ k) (upd L0 2 [⟨0, 1⟩])) := ⟨h2⟩
  have B2 := Aside0.mk b2
  clear h2 b2 H1 B1
  go_wp2_with fail
  refine (push_ok (b := 0) ⟨0, 2⟩ H2.out B2.out (by omega) (by simp [tot, upd, L0]) (by simp [tot, upd, L0])).mono ?_
  rintro e w3 ⟨rfl, h3, b3, _⟩
  have H3 : Aside0 (Ij 49 w w3 p 3 (fun k => k ≠ p ∧ w.heap.size ≤ k) (upd (upd L0 2 [⟨0, 1⟩]) 0 [⟨0, 2⟩])) := ⟨h3⟩
  have B3 := Aside0.mk b3
  clear h3 b3 H2 B2
  go_wp2_with fail
  refine (push_ok (b := 2) ⟨0, 3⟩ H3.out B3.out (by omega) (by simp [tot, upd, L0]) (by simp [tot, upd, L0])).mono ?_
  rintro e w4 ⟨rfl, h4, b4, _⟩
  have H4 : Aside0 (Ij 49 w w4 p 3 (fun k => k ≠ p ∧ w.heap.size ≤ k) (upd (upd (upd L0 2 [⟨0, 1⟩]) 0 [⟨0, 2⟩]) 2 [⟨0, 1⟩, ⟨0, 3⟩])) := ⟨h4⟩
  have B4 := Aside0.mk b4
  clear h4 b4 H3 B3
  go_wp2_with fail
  refine (push_full ⟨0, 0⟩ 1 H4.out (by omega) (by omega) (by simp [tot, upd, L0]) (by simp [tot, upd, L0])).mono ?_
  rintro e w5 ⟨rfl, b5⟩
  have H5 := Aside0.mk (H4.out.below b5)
  have B5 := Aside0.mk (below_then B4.out B4.out.size b5)
  clear b5 H4 B4
  go_wp2_with fail
  refine (pop_ok (b := 0) (x := ⟨0, 2⟩) (xs := []) H5.out B5.out (by omega) (by omega) (by simp [upd]) (by simp [tot, upd, L0])).mono ?_
  rintro e w6 ⟨rfl, h6, b6, _⟩
  have B6 := Aside0.mk (below_alloc b6 (.cells #[.int .i64 0, .int .i64 2] 33))
  have H6 := Aside0.mk (h6.skip (below_alloc (Below.refl w6.heap.size w6) (.cells #[.int .i64 0, .int .i64 2] 33)) (by simp))
  have hp6 := h6.lt
  have O6 := Aside0.mk (blk_new w6 (.cells #[.int .i64 0, .int .i64 2] 33))
  have hz6 := b6.size
  clear b6 h6 H5 B5
  go_wp2_with fail
  refine (pop_ok (b := 2) (x := ⟨0, 1⟩) (xs := [⟨0, 3⟩]) H6.out B6.out (by omega) (fun j hj => by
    rcases (by omega : j = 0 ∨ j = 1) with rfl | rfl
    · simp [upd]
    · simp [upd, L0]) (by simp [upd]) (by simp [tot, upd, L0])).mono ?_
  rintro e w7 ⟨rfl, h7, b7, k7⟩
  have B7 := Aside0.mk (below_alloc b7 (.cells #[.int .i64 0, .int .i64 1] 33))
  have h7' := h7.below (below_alloc (Below.refl _ _) (.cells #[.int .i64 0, .int .i64 1] 33))
  generalize hL : upd (upd (upd (upd (upd L0 2 [⟨0, 1⟩]) 0 [⟨0, 2⟩]) 2 [⟨0, 1⟩, ⟨0, 3⟩]) 0 []) 2 [⟨0, 3⟩] = L at *
  have ht : tot L = 1 := by rw [← hL]; simp [tot, upd, L0]
  have h2 : (L 2).length = 1 := by rw [← hL]; simp [upd]
  clear hL
  have H7 := Aside0.mk h7'
  clear h7'
  have o7 := blk_alloc (blk_kept O6.out k7 (fun hh => hh.elim (fun e => by omega) (fun e => e.2 rfl))) (.cells #[.int .i64 0, .int .i64 1] 33)
  have x6 := (blk_cell o7 1).trans rfl
  clear b7 h7 k7 o7 H6 B6 O6
  go_wp2_with fail
  refine (len_calls H7.out (by omega)).mono ?_
  rw [ht]
  rintro e w8 ⟨rfl, rfl⟩
  go_wp2_with fail
  refine (list_ok (b := 2) H7.out (by omega) (by omega)).mono ?_
  rintro e w9 ⟨v, rfl, r, b9⟩
  obtain ⟨A, n, rfl⟩ := Kd.R_slice r
  rw [h2]
  have B9 := Aside0.mk (below_then B7.out B7.out.size b9)
  clear r b9 H7 B7
  go_wp2_with fail
  go_ret
  exact ⟨rfl, B9.out⟩

end Go.Proofs.Ytfneiocgjoalkaa.Tp
