/- The tape's choices in bounds; the sanity check of the chapter's example, walked. -/
import Derived.Test.YtfnplpkplmhhnaaRf3
namespace Go.Proofs.Ytfnplpkplmhhnaa.Tp
open Go.RowKit Go.Proofs.YtfnplpkplmhhnaaW.PrintWords Go.Proofs.YtfnplpkplmhhnaaW.PrintLast Go.Proofs.YtfnplpkplmhhnaaW.PrintMore
open Go.Proofs.Ytfnplpkplmhhnaa.PDequeFollows
open Go.Proofs.Ytfnplpkplmhhnaa.Dq
set_option linter.unusedVariables false

theorem wrap_of (n : Int) (h : -9223372036854775808 ≤ n ∧ n ≤ 9223372036854775807) : wrap64 n = n := by
  unfold wrap64
  omega

theorem mod_is (a n : Int) (hn : 0 < n) (hb : n ≤ 4611686018427387904) : ∃ r, tilefarmgen_Mod.f a n = some r ∧ 0 ≤ r ∧ r < n := by
  have h1 := Int.tmod_lt_of_pos a hn
  have h2 : -n < Int.tmod a n := by
    have := Int.tmod_lt_of_pos (-a) hn
    rw [Int.neg_tmod] at this
    omega
  unfold tilefarmgen_Mod.f
  rw [if_neg (by omega)]
  split
  · rw [wrap_of _ ⟨by omega, by omega⟩]
    exact ⟨_, rfl, by omega, by omega⟩
  · exact ⟨_, rfl, by omega, by omega⟩

theorem next_is (l : List Int) (i n : Int) (hl : l.length ≤ 9223372036854775807) (h0 : 0 ≤ i) (h1 : i ≤ l.length) (hn : 1 ≤ n) (hb : n ≤ 4611686018427387904) :
    ∃ r j, tilefarmgen_Tape_Next.f l i n = some (r, j) ∧ 0 ≤ r ∧ r < n ∧ 0 ≤ j ∧ j ≤ l.length := by
  unfold tilefarmgen_Tape_Next.f
  rw [if_neg (by omega)]
  by_cases c : i ≥ (l.length : Int)
  · rw [if_pos c]
    exact ⟨0, i, rfl, by omega, by omega, h0, h1⟩
  · rw [if_neg c, wrap_of (i + 1) ⟨by omega, by omega⟩, wrap_of (i + 1 - 1) ⟨by omega, by omega⟩, if_pos (by omega), if_pos (by omega)]
    obtain ⟨r, hr, r0, r1⟩ := mod_is (rd l (i + 1 - 1)) n (by omega) hb
    rw [hr]
    exact ⟨r, i + 1, rfl, r0, r1, by omega, by omega⟩

/-- A tape at block g over the list l, somewhere on it. -/
def OnTape (w0 w : World) (g : Nat) (l : List Int) : Prop := ∃ i, IsS48 w0 w g l i ∧ 0 ≤ i ∧ i ≤ l.length

theorem OnTape.kept {w0 w w1 : World} {g : Nat} {l : List Int} {S : Nat → Prop} (h : OnTape w0 w g l) (hk : Kept w w1 S) (hg : ¬ S g) : OnTape w0 w1 g l := by
  obtain ⟨i, h1, h2⟩ := h
  exact ⟨i, h1.kept hk hg, h2⟩
theorem OnTape.lt {w0 w : World} {g : Nat} {l : List Int} (h : OnTape w0 w g l) : g < w.heap.size := by
  obtain ⟨i, h1, h2⟩ := h
  exact h1.lt
theorem OnTape.ge {w0 w : World} {g : Nat} {l : List Int} (h : OnTape w0 w g l) : w0.heap.size ≤ g := by
  obtain ⟨i, h1, h2⟩ := h
  exact h1.ge
theorem kept_of_keep {w w1 : World} {g : Nat} (h : KeepBut w w1 g none) : Kept w w1 (fun k => k = g) := ⟨h.1, fun i hi hn => h.2 i hi hn (by simp)⟩

theorem next_calls {w0 w : World} {g : Nat} {l : List Int} (n : Int) (h : OnTape w0 w g l) (hB : Below w0.heap.size w0 w) (hl : l.length ≤ 9223372036854775807) (hn : 1 ≤ n) (hb : n ≤ 4611686018427387904) :
    Calls Try.prog 10 #[.pointer (some ⟨g, 0, none⟩), .int .i64 n] w fun e w' => ∃ r : Int, e = .returned (.int .i64 r) ∧ 0 ≤ r ∧ r < n ∧ OnTape w0 w' g l ∧ Below w0.heap.size w0 w' ∧ Kept w w' (fun k => k = g) := by
  obtain ⟨i, h1, h2, h3⟩ := h
  obtain ⟨r, j, e, r0, r1, j0, j1⟩ := next_is l i n hl h2 h3 hn hb
  refine (tilefarmgen_Tape_Next.calls g l i n r j w0 w h1 hB e).mono ?_
  rintro e w' ⟨he, a, b, c⟩
  exact ⟨r, he, r0, r1, ⟨j, a, j0, j1⟩, b, kept_of_keep c⟩

theorem left_calls {w0 w : World} {g : Nat} {l : List Int} (h : OnTape w0 w g l) (hB : Below w0.heap.size w0 w) :
    Calls Try.prog 16 #[.pointer (some ⟨g, 0, none⟩)] w fun e w' => ∃ r : Bool, e = .returned (.bool r) ∧ OnTape w0 w' g l ∧ Below w0.heap.size w0 w' ∧ Kept w w' (fun k => k = g) := by
  obtain ⟨i, h1, h2, h3⟩ := h
  refine (tilefarmgen_Tape_Left.calls g l i _ i w0 w h1 hB rfl).mono ?_
  rintro e w' ⟨he, a, b, c⟩
  exact ⟨_, he, ⟨i, a, h2, h3⟩, b, kept_of_keep c⟩

theorem tape_new {w : World} {A : Option Addr} {c : Nat} {l : List Int} (h : Kd.C (Kd.int .i64) w A l.length l) (hc : l.length ≤ c) :
    Calls Try.prog 6 #[.slice A l.length c] w fun e w' => ∃ g, e = .returned (.pointer (some ⟨g, 0, none⟩)) ∧ OnTape w w' g l ∧ Below w.heap.size w w' := by
  refine (tilefarmgen_New.calls A c l l 0 w w (Below.refl _ _) h hc rfl).mono ?_
  rintro e w' ⟨g, he, a, b, _⟩
  exact ⟨g, he, ⟨0, a, by omega, by omega⟩, b⟩

def refs (k : Nat) : List S32 := (List.range k).map fun (i : Nat) => ⟨(i : Int) + 1, 0⟩
theorem refs_succ (k : Nat) : refs (k + 1) = refs k ++ [⟨(k : Int) + 1, 0⟩] := by unfold refs; rw [List.range_succ]; simp
theorem refs_length (k : Nat) : (refs k).length = k := by simp [refs]

set_option maxHeartbeats 1000000 in
set_option maxRecDepth 100000 in
theorem sane_calls (w : World) : Calls Try.prog 14 #[] w fun e w' => e = .returned (.bool true) ∧ Below w.heap.size w w' := by
  go_enter Try.func14, Try.ntmps14
  go_wp2_with fail
  refine (new_ok (w0 := w) 3 (by omega) (by omega) (Below.refl _ _)).mono ?_
  rintro e w1 ⟨p, g, rfl, hd, hp, hg, hb⟩
  have HD := Aside0.mk hd
  have HB := Aside0.mk hb
  clear hd hb
  go_wp2_with fail
  go_loopw [3] (fun i wr => ∃ k : Nat, k ≤ 3 ∧ i = .int .i64 ((k : Int) + 1) ∧ Aside0 (Dq w wr p g 3 0 (refs k)) ∧ Aside0 (Below w.heap.size w wr)) (fun i _ => 4 - (intOf i).toNat)
  case atStart => exact ⟨0, by omega, rfl, HD, HB⟩
  case round =>
    clear HD HB
    obtain ⟨k, hk, rfl, HD, HB⟩ := hrel
    by_cases hlt : k < 3
    · go_wp2_with fail
      refine (push_ok ⟨(k : Int) + 1, 0⟩ HD.out HB.out (by rw [refs_length]; exact hlt)).mono ?_
      rintro e w2 ⟨rfl, d2, b2, k2⟩
      go_wp2_with fail
      go_roundw
      case rel => exact ⟨k + 1, by omega, by go_num, ⟨by rw [refs_succ]; exact d2⟩, ⟨b2⟩⟩
      case measure => simp [intOf]; omega
    · obtain rfl : k = 3 := by omega
      have d3 : Dq w wr p g 3 0 ([⟨1, 0⟩, ⟨2, 0⟩] ++ [⟨3, 0⟩]) := HD.out
      have c0 := d3.c0
      have c2 := d3.c2
      have D3 := Aside0.mk d3
      have hpl := blk_lt d3.obj
      clear d3 HD
      go_wp2_with fail
      refine (push_full p g 3 0 0 _ (by omega) (by omega) hpl c0 c2).mono ?_
      rintro e w2 ⟨rfl, b2⟩
      have d2 := D3.out.below b2
      have D2 := Aside0.mk d2
      have B2 := Aside0.mk (below_then HB.out HB.out.size b2)
      clear d2 b2 D3 HB
      go_wp2_with fail
      refine (pop_ok D2.out B2.out).mono ?_
      rintro e w3 ⟨rfl, d3, b3, _⟩
      have D3 := Aside0.mk d3
      have B3 := Aside0.mk b3
      clear d3 b3 D2 B2
      go_wp2_with fail
      have B4 := Aside0.mk (below_alloc B3.out (.cells #[.int .i64 3, .int .i64 0] 32))
      have D4 : Aside0 (Dq w (w3.alloc (.cells #[.int .i64 3, .int .i64 0] 32)) p g 3 0 (⟨1, 0⟩ :: [⟨2, 0⟩])) := ⟨D3.out.below (below_alloc (Below.refl _ _) _)⟩
      have o4 : Aside0 ((w3.alloc (.cells #[.int .i64 3, .int .i64 0] 32)).heap[w3.heap.size]? = some (.cells #[.int .i64 3, .int .i64 0] 32 (0, 0))) := ⟨blk_new _ _⟩
      have n1 : ¬ w3.heap.size = p := by have := blk_lt D3.out.obj; omega
      have n2 : Aside0 (¬ w3.heap.size = g) := ⟨by obtain ⟨cur, r1, _⟩ := D3.out.ring; have := blk_lt r1; omega⟩
      refine (steal_ok D4.out B4.out).mono ?_
      rintro e w5 ⟨rfl, ⟨t5, d5⟩, b5, k5⟩
      have o5 := blk_kept o4.out k5 (fun h => h.elim n1 n2.out)
      have x0 := (blk_cell o5 0).trans rfl
      have h5 := blk_lt o5
      have D5 := Aside0.mk d5
      have B5 := Aside0.mk b5
      clear d5 b5 k5 o5 D4 B4 D3 B3 o4 n1 n2
      go_wp2_with fail
      have bz := below_alloc (Below.refl w5.heap.size w5) (.cells #[.int .i64 1, .int .i64 0] 32)
      refine (len_calls p 1 _ ((D5.out.below bz).c2)).mono ?_
      rintro e w6 ⟨rfl, rfl⟩
      go_wp2_with fail
      go_ret
      exact ⟨rfl, below_alloc B5.out _⟩

end Go.Proofs.Ytfnplpkplmhhnaa.Tp
