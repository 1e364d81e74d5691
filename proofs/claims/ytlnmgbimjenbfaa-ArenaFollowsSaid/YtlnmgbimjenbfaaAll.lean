/- The program's arena, the reference's and the tape in one state: what each call answers over it. Printed by gen_all.py. -/
import Derived.Test.YtlnmgbimjenbfaaNested
namespace Go.Proofs.Ytlnmgbimjenbfaa.All
open Go.RowKit Go.Proofs.YtlnmgbimjenbfaaW.PrintWords Go.Proofs.YtlnmgbimjenbfaaW.PrintLast Go.Proofs.YtlnmgbimjenbfaaW.PrintMore
open Go.Proofs.Ytlnmgbimjenbfaa.PArenaFollows
open Go.Proofs.Ytlnmgbimjenbfaa.Ar Go.Proofs.Ytlnmgbimjenbfaa.Tp
set_option linter.unusedVariables false

/-! ### What the calls answer; m: the capacity, none for a nil arena -/
def allocM (m : Option Int) (u h n k : Int) : Int × Int × Int × Int := match m with | none => (0, 20, u, h) | some c => allocR c u h n k
def markR (m : Option Int) (l : List Int) : Int := match m with | none => 20 | some _ => if l.length < 1024 then 0 else 19
def markL (m : Option Int) (u : Int) (l : List Int) : List Int := match m with | none => l | some _ => if l.length < 1024 then l ++ [u] else l
def relR (l : List Int) : Int := if l = [] then 20 else 0
def relU (u : Int) (l : List Int) : Int := l.getLast?.getD u

/-- An arena, nil or not. -/
def SA (T : TypeId) (w0 w : World) (v : Value) (m : Option Int) (u h : Int) (l : List Int) (F : Nat → Prop) : Prop :=
  match m with
  | none => v = .pointer none ∧ u = 0 ∧ h = 0 ∧ l = []
  | some c => ∃ p, v = .pointer (some ⟨p, 0, none⟩) ∧ Ar T w0 w p c u h F l ∧ 0 ≤ u ∧ u ≤ c ∧ c ≤ 1048576 ∧ l.length ≤ 1024 ∧ ∀ x ∈ l, 0 ≤ x ∧ x ≤ c

def own (v : Value) (F : Nat → Prop) (k : Nat) : Prop := v = .pointer (some ⟨k, 0, none⟩) ∨ F k

section
variable {T T1 T2 : TypeId} {w0 w w1 : World} {v va vb : Value} {m : Option Int} {u h u2 h2 : Int} {l l2 : List Int} {F F2 S : Nat → Prop} {tp : Nat} {t : List Int}

theorem SA.kept (H : SA T w0 w v m u h l F) (hk : Kept w w1 S) (hS : ∀ k, k < w.heap.size → own v F k → ¬ S k) : SA T w0 w1 v m u h l (fun k => F k ∧ (k < w.heap.size ∨ w1.heap.size ≤ k)) := by
  cases m with
  | none => exact H
  | some c =>
    obtain ⟨p, rfl, a, b⟩ := H
    obtain ⟨x, r1, r2⟩ := a.row
    refine ⟨p, rfl, ⟨⟨x, blk_kept r1 hk (hS p (blk_lt r1) (.inl rfl)), ?_⟩, a.pw, fun h => a.out h.1, fun k hk' => ⟨a.fresh k (Nat.le_trans hk.1 hk'), .inr hk'⟩⟩, b⟩
    have r3 := Kd.R_mono (Kd.R_bound r2) (ok' := fun k => F k ∧ k < w.heap.size) (fun k hk => ⟨hk.1, hk.2.2.1⟩)
    exact Kd.R_mono (Kd.R_kept r3 hk (fun k hk' => hS k hk'.2 (.inr hk'.1))) (fun k hk => ⟨hk.1, .inl hk.2⟩)
theorem SA.lt (H : SA T w0 w v m u h l F) (k : Nat) (hv : v = .pointer (some ⟨k, 0, none⟩)) : k < w.heap.size := by
  cases m with
  | none => obtain ⟨rfl, _⟩ := H; simp at hv
  | some c =>
    obtain ⟨p, rfl, a, b⟩ := H
    simp at hv
    subst hv
    exact a.lt

/-- Two arenas and the tape. -/
structure Two (T1 T2 : TypeId) (w0 w : World) (va vb : Value) (m : Option Int) (u h : Int) (l : List Int) (u2 h2 : Int) (l2 : List Int) (tp : Nat) (t : List Int) (F F2 : Nat → Prop) : Prop where
  a : SA T1 w0 w va m u h l F
  b : SA T2 w0 w vb m u2 h2 l2 F2
  tape : OnTape w0 w tp t
  below : Below w0.heap.size w0 w
  dis : ∀ k, k < w.heap.size → own va F k → ¬ own vb F2 k
  ta : ¬ own va F tp
  tb : ¬ own vb F2 tp

theorem Two.swap (H : Two T1 T2 w0 w va vb m u h l u2 h2 l2 tp t F F2) : Two T2 T1 w0 w vb va m u2 h2 l2 u h l tp t F2 F :=
  ⟨H.b, H.a, H.tape, H.below, fun k hk a b => H.dis k hk b a, H.tb, H.ta⟩

theorem Two.after {u' h' : Int} {l' : List Int} (H : Two T1 T2 w0 w va vb m u h l u2 h2 l2 tp t F F2) (ha : SA T1 w0 w1 va m u' h' l' F) (hb : Below w0.heap.size w0 w1) (hk : Kept w w1 (own va F)) :
    ∃ F2, Two T1 T2 w0 w1 va vb m u' h' l' u2 h2 l2 tp t F F2 := by
  refine ⟨_, ha, H.b.kept hk (fun k h1 h2 h3 => H.dis k h1 h3 h2), H.tape.kept hk H.ta, hb, fun k h1 h2 h3 => ?_, H.ta, fun h => H.tb (h.imp id (fun h => h.1))⟩
  rcases h3 with h3 | h3
  · exact H.dis k (H.b.lt k h3) h2 (.inl h3)
  · exact H.dis k (h3.2.elim id (fun h => by omega)) h2 (.inr h3.1)

/-- Both arenas' state, whatever blocks they own. -/
def St (w0 w : World) (va vb : Value) (m : Option Int) (u h : Int) (l : List Int) (u2 h2 : Int) (l2 : List Int) (tp : Nat) (t : List Int) : Prop := ∃ F F2, Two 46 50 w0 w va vb m u h l u2 h2 l2 tp t F F2

theorem St.below (H : St w0 w va vb m u h l u2 h2 l2 tp t) : Below w0.heap.size w0 w := by obtain ⟨F, F2, H⟩ := H; exact H.below
theorem St.tape (H : St w0 w va vb m u h l u2 h2 l2 tp t) : OnTape w0 w tp t := by obtain ⟨F, F2, H⟩ := H; exact H.tape
theorem SA.below (H : SA T w0 w v m u h l F) (hb : Below w.heap.size w w1) : SA T w0 w1 v m u h l F := by
  cases m with
  | none => exact H
  | some c =>
    obtain ⟨p, rfl, a, b⟩ := H
    exact ⟨p, rfl, a.below hb, b⟩
theorem St.below' (H : St w0 w va vb m u h l u2 h2 l2 tp t) (hb : Below w.heap.size w w1) : St w0 w1 va vb m u h l u2 h2 l2 tp t := by
  obtain ⟨F, F2, H⟩ := H
  obtain ⟨F3, H⟩ := H.after (H.a.below hb) (below_then H.below H.below.size hb) (Kept.of_below hb _)
  exact ⟨F, F3, H⟩
theorem St.afterT (H : St w0 w va vb m u h l u2 h2 l2 tp t) (ht : OnTape w0 w1 tp t) (hb : Below w0.heap.size w0 w1) (hk : Kept w w1 (fun k => k = tp)) : St w0 w1 va vb m u h l u2 h2 l2 tp t := by
  obtain ⟨F, F2, H⟩ := H
  refine ⟨_, _, H.a.kept hk (fun k h1 h2 h3 => H.ta (by rw [← show k = tp from h3]; exact h2)), H.b.kept hk (fun k h1 h2 h3 => H.tb (by rw [← show k = tp from h3]; exact h2)), ht, hb, fun k h1 h2 h3 => ?_, fun h => H.ta (h.imp id (fun h => h.1)), fun h => H.tb (h.imp id (fun h => h.1))⟩
  have hlt : k < w.heap.size := by
    rcases h2 with h2 | h2
    · exact H.a.lt k h2
    · exact h2.2.elim id (fun h => by omega)
  exact H.dis k hlt (h2.imp id (fun h => h.1)) (h3.imp id (fun h => h.1))

theorem St.next (n : Int) (H : St w0 w va vb m u h l u2 h2 l2 tp t) (hl : t.length ≤ 9223372036854775807) (hn : 1 ≤ n) (hb : n ≤ 4611686018427387904) :
    Calls Try.prog 10 #[.pointer (some ⟨tp, 0, none⟩), .int .i64 n] w fun e w' => ∃ r : Int, e = .returned (.int .i64 r) ∧ 0 ≤ r ∧ r < n ∧ St w0 w' va vb m u h l u2 h2 l2 tp t := by
  refine (next_calls n H.tape H.below hl hn hb).mono ?_
  rintro e w' ⟨r, he, r0, r1, a, b, k⟩
  exact ⟨r, he, r0, r1, H.afterT a b k⟩
theorem St.left (H : St w0 w va vb m u h l u2 h2 l2 tp t) :
    Calls Try.prog 19 #[.pointer (some ⟨tp, 0, none⟩)] w fun e w' => ∃ r : Bool, e = .returned (.bool r) ∧ St w0 w' va vb m u h l u2 h2 l2 tp t := by
  refine (left_calls H.tape H.below).mono ?_
  rintro e w' ⟨r, he, a, b, k⟩
  exact ⟨r, he, H.afterT a b k⟩
theorem St.pick (xs : List Int) {b : Nat} (H : St w0 w va vb m u h l u2 h2 l2 tp t) (hl : t.length ≤ 9223372036854775807) (h1 : 1 ≤ xs.length) (h3 : xs.length ≤ 100) (hb : w.heap[b]? = some (.cells (xs.map (Value.int .i64)).toArray 3 (0, 0))) (hg : b ≠ tp) :
    Calls Try.prog 14 #[.pointer (some ⟨tp, 0, none⟩), .slice (some ⟨b, 0, none⟩) xs.length xs.length] w fun e w' => ∃ r : Int, e = .returned (.int .i64 r) ∧ r ∈ xs ∧ St w0 w' va vb m u h l u2 h2 l2 tp t := by
  refine (pick_calls xs H.tape H.below hl h1 h3 hb hg).mono ?_
  rintro e w' ⟨r, he, r0, a, b, k⟩
  exact ⟨r, he, r0, H.afterT a b k⟩
theorem alloc_inn (c u h n k : Int) (hu : 0 ≤ u) (huc : u ≤ c) (hc : c ≤ 1048576) : 0 ≤ (allocR c u h n k).2.2.1 ∧ (allocR c u h n k).2.2.1 ≤ c := by
  unfold allocR
  by_cases hr : n < 1 ∨ 1048576 < n ∨ k < 1 ∨ 4096 < k
  · rw [if_pos hr]
    exact ⟨hu, huc⟩
  · rw [if_neg hr]
    obtain ⟨r, b, he⟩ : ∃ r b, alignR u k c = (r, b) := ⟨_, _, rfl⟩
    rw [he]
    by_cases hh : b = true ∧ n ≤ c - r
    · rw [if_pos hh]
      obtain ⟨q1, q2, q3, q4⟩ := alignR_is (u := u) (m := k) (c := c) (r := r) (by rw [he, hh.1]) hu (by omega) (by omega)
      exact ⟨by simp only; omega, by simp only; omega⟩
    · rw [if_neg hh]
      exact ⟨hu, huc⟩
theorem snoc_of (l : List Int) (u : Int) (h : l ≠ []) : l = l.dropLast ++ [relU u l] := by
  unfold relU
  rw [List.getLast?_eq_some_getLast h]
  exact (List.dropLast_concat_getLast h).symm
theorem kept_own {p : Nat} (hk : Kept w w1 (fun k => k = p ∨ F k)) : Kept w w1 (own (.pointer (some ⟨p, 0, none⟩)) F) := hk.mono (fun k h => h.imp (fun e => by rw [show k = p from e]) id)
end

section
variable {w0 w : World} {v : Value} {m : Option Int} {u h : Int} {l : List Int} {F : Nat → Prop}
theorem aS_alloc (n k : Int) (H : SA 46 w0 w v m u h l F) (hB : Below w0.heap.size w0 w) :
    Calls Try.prog 9 #[v, .int .i64 n, .int .i64 k] w fun e w' => e = .returned (.tuple #[.int .i64 (allocM m u h n k).1, .int .i64 (allocM m u h n k).2.1]) ∧
      SA 46 w0 w' v m (allocM m u h n k).2.2.1 (allocM m u h n k).2.2.2 l F ∧ Below w0.heap.size w0 w' ∧ Kept w w' (own v F) := by
  cases m with
  | none =>
    obtain ⟨rfl, rfl, rfl, rfl⟩ := H
    refine (a_alloc_nil n k w).mono ?_
    rintro e w' ⟨rfl, rfl⟩
    exact ⟨rfl, ⟨rfl, rfl, rfl, rfl⟩, hB, Kept.refl _ _⟩
  | some c =>
    obtain ⟨p, rfl, a, i1, i2, i3, i4, i5⟩ := H
    refine (a_alloc n k a hB i1 i2 i3).mono ?_
    rintro e w' ⟨he, q, b, hk⟩
    obtain ⟨j1, j2⟩ := alloc_inn c u h n k i1 i2 i3
    exact ⟨he, ⟨p, rfl, q, j1, j2, i3, i4, i5⟩, b, kept_own hk⟩
theorem aS_mark (H : SA 46 w0 w v m u h l F) (hB : Below w0.heap.size w0 w) :
    Calls Try.prog 13 #[v] w fun e w' => e = .returned (.int .i64 (markR m l)) ∧ SA 46 w0 w' v m u h (markL m u l) F ∧ Below w0.heap.size w0 w' ∧ Kept w w' (own v F) := by
  cases m with
  | none =>
    obtain ⟨rfl, rfl, rfl, rfl⟩ := H
    refine (a_mark_nil w).mono ?_
    rintro e w' ⟨rfl, rfl⟩
    exact ⟨rfl, ⟨rfl, rfl, rfl, rfl⟩, hB, Kept.refl _ _⟩
  | some c =>
    obtain ⟨p, rfl, a, i1, i2, i3, i4, i5⟩ := H
    by_cases hl : l.length < 1024
    · refine (a_mark a hB hl).mono ?_
      rintro e w' ⟨he, q, b, hk⟩
      simp only [markR, markL, if_pos hl]
      refine ⟨he, ⟨p, rfl, q, i1, i2, i3, by simp; omega, fun x hx => ?_⟩, b, kept_own hk⟩
      rcases List.mem_append.1 hx with hx | hx
      · exact i5 x hx
      · rw [List.mem_singleton.1 hx]; exact ⟨i1, i2⟩
    · refine (a_mark_full a (by omega)).mono ?_
      rintro e w' ⟨he, rfl⟩
      simp only [markR, markL, if_neg hl]
      exact ⟨he, ⟨p, rfl, a, i1, i2, i3, i4, i5⟩, hB, Kept.refl _ _⟩
theorem aS_release (H : SA 46 w0 w v m u h l F) (hB : Below w0.heap.size w0 w) :
    Calls Try.prog 16 #[v] w fun e w' => e = .returned (.int .i64 (relR l)) ∧ SA 46 w0 w' v m (relU u l) h l.dropLast F ∧ Below w0.heap.size w0 w' ∧ Kept w w' (own v F) := by
  cases m with
  | none =>
    obtain ⟨rfl, rfl, rfl, rfl⟩ := H
    refine (a_release_nil w).mono ?_
    rintro e w' ⟨rfl, rfl⟩
    exact ⟨rfl, ⟨rfl, rfl, rfl, rfl⟩, hB, Kept.refl _ _⟩
  | some c =>
    obtain ⟨p, rfl, a, i1, i2, i3, i4, i5⟩ := H
    by_cases hl : l = []
    · subst hl
      refine (a_release_none a).mono ?_
      rintro e w' ⟨he, rfl⟩
      exact ⟨he, ⟨p, rfl, a, i1, i2, i3, i4, i5⟩, hB, Kept.refl _ _⟩
    · have e0 := snoc_of l u hl
      have ln : 0 < l.length := List.length_pos_iff.2 hl
      have a' := a
      rw [e0] at a'
      refine (a_release a' hB (by rw [List.length_dropLast]; omega)).mono ?_
      rintro e w' ⟨he, q, b, hk⟩
      obtain ⟨j1, j2⟩ := i5 (relU u l) (by have hm : relU u l ∈ l.dropLast ++ [relU u l] := by simp
                                           rwa [← e0] at hm)
      simp only [relR, if_neg hl]
      exact ⟨he, ⟨p, rfl, q, j1, j2, i3, by rw [List.length_dropLast]; omega, fun x hx => i5 x ((List.dropLast_sublist l).subset hx)⟩, b, kept_own hk⟩
theorem aS_reset (H : SA 46 w0 w v m u h l F) (hB : Below w0.heap.size w0 w) :
    Calls Try.prog 23 #[v] w fun e w' => e = .returned (.tuple #[]) ∧ SA 46 w0 w' v m 0 h [] F ∧ Below w0.heap.size w0 w' ∧ Kept w w' (own v F) := by
  cases m with
  | none =>
    obtain ⟨rfl, rfl, rfl, rfl⟩ := H
    refine (a_reset_nil w).mono ?_
    rintro e w' ⟨rfl, rfl⟩
    exact ⟨rfl, ⟨rfl, rfl, rfl, rfl⟩, hB, Kept.refl _ _⟩
  | some c =>
    obtain ⟨p, rfl, a, i1, i2, i3, i4, i5⟩ := H
    refine (a_reset a hB).mono ?_
    rintro e w' ⟨he, q, b, hk⟩
    exact ⟨he, ⟨p, rfl, q, by omega, by omega, i3, by simp, by simp⟩, b, kept_own hk⟩
theorem aS_used (H : SA 46 w0 w v m u h l F) : Calls Try.prog 11 #[v] w fun e w' => e = .returned (.int .i64 u) ∧ w = w' := by
  cases m with
  | none => obtain ⟨rfl, rfl, rfl, rfl⟩ := H; exact a_used_nil w
  | some c => obtain ⟨p, rfl, a, _⟩ := H; exact a_used a
theorem aS_high (H : SA 46 w0 w v m u h l F) : Calls Try.prog 15 #[v] w fun e w' => e = .returned (.int .i64 h) ∧ w = w' := by
  cases m with
  | none => obtain ⟨rfl, rfl, rfl, rfl⟩ := H; exact a_high_nil w
  | some c => obtain ⟨p, rfl, a, _⟩ := H; exact a_high a
theorem aS_marks (H : SA 46 w0 w v m u h l F) : Calls Try.prog 12 #[v] w fun e w' => e = .returned (.int .i64 l.length) ∧ w = w' := by
  cases m with
  | none => obtain ⟨rfl, rfl, rfl, rfl⟩ := H; exact a_marks_nil w
  | some c => obtain ⟨p, rfl, a, _⟩ := H; exact a_marks a
end

section
variable {w0 w : World} {v : Value} {m : Option Int} {u h : Int} {l : List Int} {F : Nat → Prop}
theorem bS_alloc (n k : Int) (H : SA 50 w0 w v m u h l F) (hB : Below w0.heap.size w0 w) :
    Calls Try.prog 20 #[v, .int .i64 n, .int .i64 k] w fun e w' => e = .returned (.tuple #[.int .i64 (allocM m u h n k).1, .int .i64 (allocM m u h n k).2.1]) ∧
      SA 50 w0 w' v m (allocM m u h n k).2.2.1 (allocM m u h n k).2.2.2 l F ∧ Below w0.heap.size w0 w' ∧ Kept w w' (own v F) := by
  cases m with
  | none =>
    obtain ⟨rfl, rfl, rfl, rfl⟩ := H
    refine (b_alloc_nil n k w).mono ?_
    rintro e w' ⟨rfl, rfl⟩
    exact ⟨rfl, ⟨rfl, rfl, rfl, rfl⟩, hB, Kept.refl _ _⟩
  | some c =>
    obtain ⟨p, rfl, a, i1, i2, i3, i4, i5⟩ := H
    refine (b_alloc n k a hB i1 i2 i3).mono ?_
    rintro e w' ⟨he, q, b, hk⟩
    obtain ⟨j1, j2⟩ := alloc_inn c u h n k i1 i2 i3
    exact ⟨he, ⟨p, rfl, q, j1, j2, i3, i4, i5⟩, b, kept_own hk⟩
theorem bS_mark (H : SA 50 w0 w v m u h l F) (hB : Below w0.heap.size w0 w) :
    Calls Try.prog 21 #[v] w fun e w' => e = .returned (.int .i64 (markR m l)) ∧ SA 50 w0 w' v m u h (markL m u l) F ∧ Below w0.heap.size w0 w' ∧ Kept w w' (own v F) := by
  cases m with
  | none =>
    obtain ⟨rfl, rfl, rfl, rfl⟩ := H
    refine (b_mark_nil w).mono ?_
    rintro e w' ⟨rfl, rfl⟩
    exact ⟨rfl, ⟨rfl, rfl, rfl, rfl⟩, hB, Kept.refl _ _⟩
  | some c =>
    obtain ⟨p, rfl, a, i1, i2, i3, i4, i5⟩ := H
    by_cases hl : l.length < 1024
    · refine (b_mark a hB hl).mono ?_
      rintro e w' ⟨he, q, b, hk⟩
      simp only [markR, markL, if_pos hl]
      refine ⟨he, ⟨p, rfl, q, i1, i2, i3, by simp; omega, fun x hx => ?_⟩, b, kept_own hk⟩
      rcases List.mem_append.1 hx with hx | hx
      · exact i5 x hx
      · rw [List.mem_singleton.1 hx]; exact ⟨i1, i2⟩
    · refine (b_mark_full a (by omega)).mono ?_
      rintro e w' ⟨he, rfl⟩
      simp only [markR, markL, if_neg hl]
      exact ⟨he, ⟨p, rfl, a, i1, i2, i3, i4, i5⟩, hB, Kept.refl _ _⟩
theorem bS_release (H : SA 50 w0 w v m u h l F) (hB : Below w0.heap.size w0 w) :
    Calls Try.prog 22 #[v] w fun e w' => e = .returned (.int .i64 (relR l)) ∧ SA 50 w0 w' v m (relU u l) h l.dropLast F ∧ Below w0.heap.size w0 w' ∧ Kept w w' (own v F) := by
  cases m with
  | none =>
    obtain ⟨rfl, rfl, rfl, rfl⟩ := H
    refine (b_release_nil w).mono ?_
    rintro e w' ⟨rfl, rfl⟩
    exact ⟨rfl, ⟨rfl, rfl, rfl, rfl⟩, hB, Kept.refl _ _⟩
  | some c =>
    obtain ⟨p, rfl, a, i1, i2, i3, i4, i5⟩ := H
    by_cases hl : l = []
    · subst hl
      refine (b_release_none a).mono ?_
      rintro e w' ⟨he, rfl⟩
      exact ⟨he, ⟨p, rfl, a, i1, i2, i3, i4, i5⟩, hB, Kept.refl _ _⟩
    · have e0 := snoc_of l u hl
      have ln : 0 < l.length := List.length_pos_iff.2 hl
      have a' := a
      rw [e0] at a'
      refine (b_release a' hB (by rw [List.length_dropLast]; omega)).mono ?_
      rintro e w' ⟨he, q, b, hk⟩
      obtain ⟨j1, j2⟩ := i5 (relU u l) (by have hm : relU u l ∈ l.dropLast ++ [relU u l] := by simp
                                           rwa [← e0] at hm)
      simp only [relR, if_neg hl]
      exact ⟨he, ⟨p, rfl, q, j1, j2, i3, by rw [List.length_dropLast]; omega, fun x hx => i5 x ((List.dropLast_sublist l).subset hx)⟩, b, kept_own hk⟩
theorem bS_reset (H : SA 50 w0 w v m u h l F) (hB : Below w0.heap.size w0 w) :
    Calls Try.prog 24 #[v] w fun e w' => e = .returned (.tuple #[]) ∧ SA 50 w0 w' v m 0 h [] F ∧ Below w0.heap.size w0 w' ∧ Kept w w' (own v F) := by
  cases m with
  | none =>
    obtain ⟨rfl, rfl, rfl, rfl⟩ := H
    refine (b_reset_nil w).mono ?_
    rintro e w' ⟨rfl, rfl⟩
    exact ⟨rfl, ⟨rfl, rfl, rfl, rfl⟩, hB, Kept.refl _ _⟩
  | some c =>
    obtain ⟨p, rfl, a, i1, i2, i3, i4, i5⟩ := H
    refine (b_reset a hB).mono ?_
    rintro e w' ⟨he, q, b, hk⟩
    exact ⟨he, ⟨p, rfl, q, by omega, by omega, i3, by simp, by simp⟩, b, kept_own hk⟩
theorem bS_used (H : SA 50 w0 w v m u h l F) : Calls Try.prog 25 #[v] w fun e w' => e = .returned (.int .i64 u) ∧ w = w' := by
  cases m with
  | none => obtain ⟨rfl, rfl, rfl, rfl⟩ := H; exact b_used_nil w
  | some c => obtain ⟨p, rfl, a, _⟩ := H; exact b_used a
theorem bS_high (H : SA 50 w0 w v m u h l F) : Calls Try.prog 26 #[v] w fun e w' => e = .returned (.int .i64 h) ∧ w = w' := by
  cases m with
  | none => obtain ⟨rfl, rfl, rfl, rfl⟩ := H; exact b_high_nil w
  | some c => obtain ⟨p, rfl, a, _⟩ := H; exact b_high a
theorem bS_marks (H : SA 50 w0 w v m u h l F) : Calls Try.prog 27 #[v] w fun e w' => e = .returned (.int .i64 l.length) ∧ w = w' := by
  cases m with
  | none => obtain ⟨rfl, rfl, rfl, rfl⟩ := H; exact b_marks_nil w
  | some c => obtain ⟨p, rfl, a, _⟩ := H; exact b_marks a
end

section
variable {w0 w : World} {va vb : Value} {m : Option Int} {u h u2 h2 : Int} {l l2 : List Int} {tp : Nat} {t : List Int}
theorem allocA (n k : Int) (H : St w0 w va vb m u h l u2 h2 l2 tp t) :
    Calls Try.prog 9 #[va, .int .i64 n, .int .i64 k] w fun e w' => e = .returned (.tuple #[.int .i64 (allocM m u h n k).1, .int .i64 (allocM m u h n k).2.1]) ∧ St w0 w' va vb m (allocM m u h n k).2.2.1 (allocM m u h n k).2.2.2 l u2 h2 l2 tp t := by
  obtain ⟨F, F2, H⟩ := H
  refine (aS_alloc n k H.a H.below).mono ?_
  rintro e w' ⟨he, a, b, k⟩
  obtain ⟨F3, H⟩ := H.after a b k
  exact ⟨he, F, F3, H⟩
theorem markA (H : St w0 w va vb m u h l u2 h2 l2 tp t) :
    Calls Try.prog 13 #[va] w fun e w' => e = .returned (.int .i64 (markR m l)) ∧ St w0 w' va vb m u h (markL m u l) u2 h2 l2 tp t := by
  obtain ⟨F, F2, H⟩ := H
  refine (aS_mark H.a H.below).mono ?_
  rintro e w' ⟨he, a, b, k⟩
  obtain ⟨F3, H⟩ := H.after a b k
  exact ⟨he, F, F3, H⟩
theorem releaseA (H : St w0 w va vb m u h l u2 h2 l2 tp t) :
    Calls Try.prog 16 #[va] w fun e w' => e = .returned (.int .i64 (relR l)) ∧ St w0 w' va vb m (relU u l) h l.dropLast u2 h2 l2 tp t := by
  obtain ⟨F, F2, H⟩ := H
  refine (aS_release H.a H.below).mono ?_
  rintro e w' ⟨he, a, b, k⟩
  obtain ⟨F3, H⟩ := H.after a b k
  exact ⟨he, F, F3, H⟩
theorem resetA (H : St w0 w va vb m u h l u2 h2 l2 tp t) :
    Calls Try.prog 23 #[va] w fun e w' => e = .returned (.tuple #[]) ∧ St w0 w' va vb m 0 h [] u2 h2 l2 tp t := by
  obtain ⟨F, F2, H⟩ := H
  refine (aS_reset H.a H.below).mono ?_
  rintro e w' ⟨he, a, b, k⟩
  obtain ⟨F3, H⟩ := H.after a b k
  exact ⟨he, F, F3, H⟩
theorem usedA (H : St w0 w va vb m u h l u2 h2 l2 tp t) : Calls Try.prog 11 #[va] w fun e w' => e = .returned (.int .i64 u) ∧ w = w' := by
  obtain ⟨F, F2, H⟩ := H
  exact aS_used H.a
theorem highA (H : St w0 w va vb m u h l u2 h2 l2 tp t) : Calls Try.prog 15 #[va] w fun e w' => e = .returned (.int .i64 h) ∧ w = w' := by
  obtain ⟨F, F2, H⟩ := H
  exact aS_high H.a
theorem marksA (H : St w0 w va vb m u h l u2 h2 l2 tp t) : Calls Try.prog 12 #[va] w fun e w' => e = .returned (.int .i64 l.length) ∧ w = w' := by
  obtain ⟨F, F2, H⟩ := H
  exact aS_marks H.a
theorem allocB (n k : Int) (H : St w0 w va vb m u h l u2 h2 l2 tp t) :
    Calls Try.prog 20 #[vb, .int .i64 n, .int .i64 k] w fun e w' => e = .returned (.tuple #[.int .i64 (allocM m u2 h2 n k).1, .int .i64 (allocM m u2 h2 n k).2.1]) ∧ St w0 w' va vb m u h l (allocM m u2 h2 n k).2.2.1 (allocM m u2 h2 n k).2.2.2 l2 tp t := by
  obtain ⟨F, F2, H⟩ := H
  refine (bS_alloc n k H.b H.below).mono ?_
  rintro e w' ⟨he, a, b, k⟩
  obtain ⟨F3, H⟩ := H.swap.after a b k
  exact ⟨he, F3, F2, H.swap⟩
theorem markB (H : St w0 w va vb m u h l u2 h2 l2 tp t) :
    Calls Try.prog 21 #[vb] w fun e w' => e = .returned (.int .i64 (markR m l2)) ∧ St w0 w' va vb m u h l u2 h2 (markL m u2 l2) tp t := by
  obtain ⟨F, F2, H⟩ := H
  refine (bS_mark H.b H.below).mono ?_
  rintro e w' ⟨he, a, b, k⟩
  obtain ⟨F3, H⟩ := H.swap.after a b k
  exact ⟨he, F3, F2, H.swap⟩
theorem releaseB (H : St w0 w va vb m u h l u2 h2 l2 tp t) :
    Calls Try.prog 22 #[vb] w fun e w' => e = .returned (.int .i64 (relR l2)) ∧ St w0 w' va vb m u h l (relU u2 l2) h2 l2.dropLast tp t := by
  obtain ⟨F, F2, H⟩ := H
  refine (bS_release H.b H.below).mono ?_
  rintro e w' ⟨he, a, b, k⟩
  obtain ⟨F3, H⟩ := H.swap.after a b k
  exact ⟨he, F3, F2, H.swap⟩
theorem resetB (H : St w0 w va vb m u h l u2 h2 l2 tp t) :
    Calls Try.prog 24 #[vb] w fun e w' => e = .returned (.tuple #[]) ∧ St w0 w' va vb m u h l 0 h2 [] tp t := by
  obtain ⟨F, F2, H⟩ := H
  refine (bS_reset H.b H.below).mono ?_
  rintro e w' ⟨he, a, b, k⟩
  obtain ⟨F3, H⟩ := H.swap.after a b k
  exact ⟨he, F3, F2, H.swap⟩
theorem usedB (H : St w0 w va vb m u h l u2 h2 l2 tp t) : Calls Try.prog 25 #[vb] w fun e w' => e = .returned (.int .i64 u2) ∧ w = w' := by
  obtain ⟨F, F2, H⟩ := H
  exact bS_used H.b
theorem highB (H : St w0 w va vb m u h l u2 h2 l2 tp t) : Calls Try.prog 26 #[vb] w fun e w' => e = .returned (.int .i64 h2) ∧ w = w' := by
  obtain ⟨F, F2, H⟩ := H
  exact bS_high H.b
theorem marksB (H : St w0 w va vb m u h l u2 h2 l2 tp t) : Calls Try.prog 27 #[vb] w fun e w' => e = .returned (.int .i64 l2.length) ∧ w = w' := by
  obtain ⟨F, F2, H⟩ := H
  exact bS_marks H.b

/-- The two constructors side by side: both refuse, or both make an empty arena. -/
theorem news (c : Int) (ht : OnTape w0 w tp t) (hB : Below w0.heap.size w0 w) : ∃ (m : Option Int) (r : Int),
    Calls Try.prog 8 #[.int .i64 c] w fun e w1 => ∃ va, e = .returned (.tuple #[va, .int .i64 r]) ∧
      Calls Try.prog 18 #[.int .i64 c] w1 fun e w2 => ∃ vb, e = .returned (.tuple #[vb, .int .i64 r]) ∧ ((va = .pointer none ∧ vb = .pointer none) ∨ ((∃ p, va = .pointer (some ⟨p, 0, none⟩)) ∧ ∃ p, vb = .pointer (some ⟨p, 0, none⟩))) ∧ St w0 w2 va vb m 0 0 [] 0 0 [] tp t := by
  by_cases hc : c < 0 ∨ 1048576 < c
  · refine ⟨none, 2, (a_new_bad c hc w).mono ?_⟩
    rintro e w1 ⟨rfl, rfl⟩
    refine ⟨_, rfl, (b_new_bad c hc _).mono ?_⟩
    rintro e w2 ⟨rfl, rfl⟩
    refine ⟨_, rfl, .inl ⟨rfl, rfl⟩, fun _ => False, fun _ => False, ⟨rfl, rfl, rfl, rfl⟩, ⟨rfl, rfl, rfl, rfl⟩, ht, hB, fun k hk h1 h2 => ?_, fun h => ?_, fun h => ?_⟩
    · rcases h1 with h1 | h1
      · simp at h1
      · exact h1
    · rcases h with h | h
      · simp at h
      · exact h
    · rcases h with h | h
      · simp at h
      · exact h
  · refine ⟨some c, 0, (a_new_ok c (by omega) (by omega) hB).mono ?_⟩
    rintro e w1 ⟨p, rfl, hd, hp, hb⟩
    have htl := ht.lt
    have hB1 := below_then hB hB.size hb
    refine ⟨_, rfl, (b_new_ok c (by omega) (by omega) hB1).mono ?_⟩
    rintro e w2 ⟨q, rfl, hr, hq, hb2⟩
    have hpl := hd.lt
    have hs1 : SA 46 w0 w1 (.pointer (some ⟨p, 0, none⟩)) (some c) 0 0 [] (fun k => k ≠ p ∧ w.heap.size ≤ k) := ⟨p, rfl, hd, by omega, by omega, by omega, by simp, by simp⟩
    have hs2 := hs1.kept (Kept.of_below hb2 (fun _ => False)) (fun _ _ _ => id)
    have hz := hb.size
    refine ⟨_, rfl, .inr ⟨⟨_, rfl⟩, ⟨_, rfl⟩⟩, _, _, hs2, ⟨q, rfl, hr, by omega, by omega, by omega, by simp, by simp⟩, (ht.below hb).below hb2, below_then hB1 hB1.size hb2, fun k hk h1 h2 => ?_, fun h1 => ?_, fun h1 => ?_⟩
    · have h3 : k < w1.heap.size := by
        rcases h1 with h1 | h1
        · simp at h1 <;> omega
        · exact h1.2.elim id (fun h => by omega)
      rcases h2 with h2 | h2
      · simp at h2 <;> omega
      · have := h2.2; omega
    · rcases h1 with h1 | h1
      · simp at h1 <;> omega
      · have := h1.1.2; omega
    · rcases h1 with h1 | h1
      · simp at h1 <;> omega
      · have := h1.2; omega
end
end Go.Proofs.Ytlnmgbimjenbfaa.All
