/- The tape's choices in bounds; the sanity check of the chapter's example, walked. -/
import Derived.Test.YtlnmgbimjenbfaaAr2
namespace Go.Proofs.Ytlnmgbimjenbfaa.Tp
open Go.RowKit Go.Proofs.YtlnmgbimjenbfaaW.PrintWords Go.Proofs.YtlnmgbimjenbfaaW.PrintLast Go.Proofs.YtlnmgbimjenbfaaW.PrintMore
open Go.Proofs.Ytlnmgbimjenbfaa.PArenaFollows
open Go.Proofs.Ytlnmgbimjenbfaa.Ar
set_option linter.unusedVariables false

theorem mod_is (a n : Int) (hn : 0 < n) (hb : n ≤ 4611686018427387904) : ∃ r, tilefarmgen_Mod.f a n = some r ∧ 0 ≤ r ∧ r < n := by
  have h1 := Int.tmod_lt_of_pos a hn
  have h2 : -n < Int.tmod a n := by
    have := Int.tmod_lt_of_pos (-a) hn
    rw [Int.neg_tmod] at this
    omega
  unfold tilefarmgen_Mod.f
  rw [if_neg (by omega)]
  split
  · rw [wrap_of _ ⟨by omega, by omega⟩]
    exact ⟨_, rfl, by omega, by omega⟩
  · exact ⟨_, rfl, by omega, by omega⟩

theorem next_is (l : List Int) (i n : Int) (hl : l.length ≤ 9223372036854775807) (h0 : 0 ≤ i) (h1 : i ≤ l.length) (hn : 1 ≤ n) (hb : n ≤ 4611686018427387904) :
    ∃ r j, tilefarmgen_Tape_Next.f l i n = some (r, j) ∧ 0 ≤ r ∧ r < n ∧ 0 ≤ j ∧ j ≤ l.length := by
  unfold tilefarmgen_Tape_Next.f
  rw [if_neg (by omega)]
  by_cases c : i ≥ (l.length : Int)
  · rw [if_pos c]
    exact ⟨0, i, rfl, by omega, by omega, h0, h1⟩
  · rw [if_neg c, wrap_of (i + 1) ⟨by omega, by omega⟩, wrap_of (i + 1 - 1) ⟨by omega, by omega⟩, if_pos (by omega), if_pos (by omega)]
    obtain ⟨r, hr, r0, r1⟩ := mod_is (rd l (i + 1 - 1)) n (by omega) hb
    rw [hr]
    exact ⟨r, i + 1, rfl, r0, r1, by omega, by omega⟩

theorem pick_is (l m : List Int) (i : Int) (hl : l.length ≤ 9223372036854775807) (h0 : 0 ≤ i) (h1 : i ≤ l.length) (hm : 1 ≤ m.length) (hb : m.length ≤ 100) :
    ∃ r j, tilefarmgen_Tape_Pick.f l i m = some (r, j) ∧ r ∈ m ∧ 0 ≤ j ∧ j ≤ l.length := by
  obtain ⟨r, j, e, r0, r1, j0, j1⟩ := next_is l i m.length hl h0 h1 (by omega) (by omega)
  unfold tilefarmgen_Tape_Pick.f
  rw [e]
  simp only [Option.bind_some]
  rw [if_pos r0, if_pos r1]
  refine ⟨_, _, rfl, ?_, j0, j1⟩
  obtain ⟨q, rfl⟩ := Int.eq_ofNat_of_zero_le r0
  have hq : q < m.length := by omega
  simp [rd, hq]

/-- A tape at block g over the list l, somewhere on it. -/
def OnTape (w0 w : World) (g : Nat) (l : List Int) : Prop := ∃ i, IsS44 w0 w g l i ∧ 0 ≤ i ∧ i ≤ l.length

theorem OnTape.kept {w0 w w1 : World} {g : Nat} {l : List Int} {S : Nat → Prop} (h : OnTape w0 w g l) (hk : Kept w w1 S) (hg : ¬ S g) : OnTape w0 w1 g l := by
  obtain ⟨i, h1, h2⟩ := h
  exact ⟨i, h1.kept hk hg, h2⟩
theorem OnTape.below {w0 w w1 : World} {g : Nat} {l : List Int} (h : OnTape w0 w g l) (hb : Below w.heap.size w w1) : OnTape w0 w1 g l := h.kept (Kept.of_below hb (fun _ => False)) id
theorem OnTape.lt {w0 w : World} {g : Nat} {l : List Int} (h : OnTape w0 w g l) : g < w.heap.size := by
  obtain ⟨i, h1, h2⟩ := h
  exact h1.lt
theorem OnTape.ge {w0 w : World} {g : Nat} {l : List Int} (h : OnTape w0 w g l) : w0.heap.size ≤ g := by
  obtain ⟨i, h1, h2⟩ := h
  exact h1.ge
theorem kept_of_keep {w w1 : World} {g : Nat} (h : KeepBut w w1 g none) : Kept w w1 (fun k => k = g) := ⟨h.1, fun i hi hn => h.2 i hi hn (by simp)⟩

theorem next_calls {w0 w : World} {g : Nat} {l : List Int} (n : Int) (h : OnTape w0 w g l) (hB : Below w0.heap.size w0 w) (hl : l.length ≤ 9223372036854775807) (hn : 1 ≤ n) (hb : n ≤ 4611686018427387904) :
    Calls Try.prog 10 #[.pointer (some ⟨g, 0, none⟩), .int .i64 n] w fun e w' => ∃ r : Int, e = .returned (.int .i64 r) ∧ 0 ≤ r ∧ r < n ∧ OnTape w0 w' g l ∧ Below w0.heap.size w0 w' ∧ Kept w w' (fun k => k = g) := by
  obtain ⟨i, h1, h2, h3⟩ := h
  obtain ⟨r, j, e, r0, r1, j0, j1⟩ := next_is l i n hl h2 h3 hn hb
  refine (tilefarmgen_Tape_Next.calls g l i n r j w0 w h1 hB e).mono ?_
  rintro e w' ⟨he, a, b, c⟩
  exact ⟨r, he, r0, r1, ⟨j, a, j0, j1⟩, b, kept_of_keep c⟩

/-- The block of a list that is written out in the text. -/
theorem ints_block {w : World} {b : Nat} (xs : List Int) (h : w.heap[b]? = some (.cells (xs.map (Value.int .i64)).toArray 3 (0, 0))) (hx : xs.length ≤ 100) : Kd.C (Kd.int .i64) w (some ⟨b, 0, none⟩) xs.length xs := by
  refine Kd.C_of_reads (enc := Value.int .i64) (d := (0 : Int)) (h1 := fun _ => rfl) ⟨rfl, by omega, fun _ => ⟨_, rfl, fun i hi => ?_⟩⟩
  rw [add_plain, blk_cell h i]
  simp [List.getD_eq_getElem?_getD, hi]

theorem pick_calls {w0 w : World} {g b : Nat} {l : List Int} (xs : List Int) (h : OnTape w0 w g l) (hB : Below w0.heap.size w0 w) (hl : l.length ≤ 9223372036854775807) (h1 : 1 ≤ xs.length) (h2 : xs.length ≤ 100)
    (hb : w.heap[b]? = some (.cells (xs.map (Value.int .i64)).toArray 3 (0, 0))) (hg : b ≠ g) :
    Calls Try.prog 14 #[.pointer (some ⟨g, 0, none⟩), .slice (some ⟨b, 0, none⟩) xs.length xs.length] w fun e w' => ∃ r : Int, e = .returned (.int .i64 r) ∧ r ∈ xs ∧ OnTape w0 w' g l ∧ Below w0.heap.size w0 w' ∧ Kept w w' (fun k => k = g) := by
  obtain ⟨i, q1, q2, q3⟩ := h
  obtain ⟨r, j, e, r0, j0, j1⟩ := pick_is l xs i hl q2 q3 h1 h2
  refine (tilefarmgen_Tape_Pick.calls g l i (some ⟨b, 0, none⟩) xs.length xs r j w0 w q1 hB (ints_block xs hb h2) (Nat.le_refl _) (fun ad ha _ => by injection ha with ha; subst ha; exact hg) e).mono ?_
  rintro e w' ⟨he, a, b, c⟩
  exact ⟨r, he, r0, ⟨j, a, j0, j1⟩, b, kept_of_keep c⟩

theorem left_calls {w0 w : World} {g : Nat} {l : List Int} (h : OnTape w0 w g l) (hB : Below w0.heap.size w0 w) :
    Calls Try.prog 19 #[.pointer (some ⟨g, 0, none⟩)] w fun e w' => ∃ r : Bool, e = .returned (.bool r) ∧ OnTape w0 w' g l ∧ Below w0.heap.size w0 w' ∧ Kept w w' (fun k => k = g) := by
  obtain ⟨i, h1, h2, h3⟩ := h
  refine (tilefarmgen_Tape_Left.calls g l i _ i w0 w h1 hB rfl).mono ?_
  rintro e w' ⟨he, a, b, c⟩
  exact ⟨_, he, ⟨i, a, h2, h3⟩, b, kept_of_keep c⟩

theorem tape_new {w : World} {A : Option Addr} {c : Nat} {l : List Int} (h : Kd.C (Kd.int .i64) w A l.length l) (hc : l.length ≤ c) :
    Calls Try.prog 6 #[.slice A l.length c] w fun e w' => ∃ g, e = .returned (.pointer (some ⟨g, 0, none⟩)) ∧ OnTape w w' g l ∧ Below w.heap.size w w' := by
  refine (tilefarmgen_New.calls A c l l 0 w w (Below.refl _ _) h hc rfl).mono ?_
  rintro e w' ⟨g, he, a, b, _⟩
  exact ⟨g, he, ⟨0, a, by omega, by omega⟩, b⟩

set_option maxHeartbeats 1000000 in
set_option maxRecDepth 100000 in
theorem sane_calls (w : World) : Calls Try.prog 17 #[] w fun e w' => e = .returned (.bool true) ∧ Below w.heap.size w w' := by
  go_enter Try.func17, Try.ntmps17
  go_wp2_with fail
  refine (a_new_ok (w0 := w) 64 (by omega) (by omega) (Below.refl _ _)).mono ?_
  rintro e w1 ⟨p, rfl, h1, hp, b1⟩
  have H1 := Aside0.mk h1
  have B1 := Aside0.mk b1
  clear h1 b1
  go_wp2_with fail
  refine (a_alloc 10 16 H1.out B1.out (by omega) (by omega) (by omega)).mono ?_
  rw [show allocR 64 0 0 10 16 = (0, 0, 10, 10) by decide]
  rintro e w2 ⟨rfl, h2, b2, _⟩
  have H2 := Aside0.mk h2
  have B2 := Aside0.mk b2
  clear h2 b2 H1 B1
  go_wp2_with fail
  refine (a_alloc 10 16 H2.out B2.out (by omega) (by omega) (by omega)).mono ?_
  rw [show allocR 64 10 10 10 16 = (16, 0, 26, 26) by decide]
  rintro e w3 ⟨rfl, h3, b3, _⟩
  have H3 := Aside0.mk h3
  have B3 := Aside0.mk b3
  clear h3 b3 H2 B2
  go_wp2_with fail
  refine (a_alloc 40 1 H3.out B3.out (by omega) (by omega) (by omega)).mono ?_
  rw [show allocR 64 26 26 40 1 = (0, 19, 26, 26) by decide]
  rintro e w4 ⟨rfl, h4, b4, _⟩
  have H4 := Aside0.mk h4
  have B4 := Aside0.mk b4
  clear h4 b4 H3 B3
  go_wp2_with (go_at_call 11; refine (a_used H4.out).mono ?_; rintro e w5 ⟨rfl, rfl⟩)
  go_ret
  exact ⟨rfl, B4.out⟩

end Go.Proofs.Ytlnmgbimjenbfaa.Tp
