/- The program's deque, the reference's and the tape in one state: what each call answers over it. -/
import Derived.Test.YtfnplpkplmhhnaaBoth
namespace Go.Proofs.Ytfnplpkplmhhnaa.All
open Go.RowKit Go.Proofs.YtfnplpkplmhhnaaW.PrintWords Go.Proofs.YtfnplpkplmhhnaaW.PrintLast Go.Proofs.YtfnplpkplmhhnaaW.PrintMore
open Go.Proofs.Ytfnplpkplmhhnaa.PDequeFollows
open Go.Proofs.Ytfnplpkplmhhnaa.Dq (Dq refV keep keep_length)
open Go.Proofs.Ytfnplpkplmhhnaa.Rf (Rf)
open Go.Proofs.Ytfnplpkplmhhnaa.Tp Go.Proofs.Ytfnplpkplmhhnaa.Both
set_option linter.unusedVariables false

/-! ### What the calls answer, over a list; m: the capacity, none for a nil deque -/
def pushR (m : Option Nat) (l : List S32) : Int := match m with | none => 20 | some c => if l.length < c then 0 else 19
def pushL (m : Option Nat) (l : List S32) (x : S32) : List S32 := match m with | none => l | some c => if l.length < c then l ++ [x] else l
def popX (l : List S32) : S32 := l.getLast?.getD ⟨0, 0⟩
def topX (l : List S32) : S32 := l.head?.getD ⟨0, 0⟩

/-- The program's deque, nil or not. -/
def DS (w0 w : World) (va : Value) (m : Option Nat) (l : List S32) (B tp : Nat) : Prop :=
  match m with
  | none => va = .pointer none ∧ l = []
  | some c => ∃ p g t, va = .pointer (some ⟨p, 0, none⟩) ∧ Dq w0 w p g c t l ∧ p < B ∧ g < B ∧ p ≠ tp ∧ g ≠ tp

/-- The reference's deque, nil or not. -/
def RS (w0 w : World) (vb : Value) (m : Option Nat) (l : List S32) (B : Nat) (X : Nat → Prop) : Prop :=
  match m with
  | none => vb = .pointer none ∧ l = []
  | some c => ∃ p, vb = .pointer (some ⟨p, 0, none⟩) ∧ Rf w0 w p c (fun k => k ≠ p ∧ B ≤ k ∧ ¬ X k) l ∧ (B ≤ p ∧ ¬ X p) ∧ 1 ≤ c ∧ c ≤ 256 ∧ l.length ≤ c

structure St (w0 w : World) (va vb : Value) (m : Option Nat) (la lb : List S32) (B tp : Nat) (t : List Int) (X : Nat → Prop) : Prop where
  ds : DS w0 w va m la B tp
  rs : RS w0 w vb m lb B X
  tape : OnTape w0 w tp t
  below : Below w0.heap.size w0 w
  tpB : tp < B
  size : B ≤ w.heap.size
  xs : ∀ k, X k → k < w.heap.size

section
variable {w0 w w1 : World} {va vb : Value} {m : Option Nat} {la lb : List S32} {B tp : Nat} {t : List Int} {S X : Nat → Prop}

theorem DS.kept (h : DS w0 w va m la B tp) (hk : Kept w w1 S) (hS : ∀ k, k < B → k ≠ tp → ¬ S k) : DS w0 w1 va m la B tp := by
  cases m with
  | none => exact h
  | some c =>
    obtain ⟨p, g, q, h1, h2, h3, h4, h5, h6⟩ := h
    exact ⟨p, g, q, h1, h2.kept hk (hS p h3 h5) (hS g h4 h6), h3, h4, h5, h6⟩
theorem RS.kept (h : RS w0 w vb m lb B X) (hk : Kept w w1 S) (hS : ∀ k, B ≤ k → ¬ S k) : RS w0 w1 vb m lb B X := by
  cases m with
  | none => exact h
  | some c =>
    obtain ⟨p, h1, h2, h3, h4⟩ := h
    exact ⟨p, h1, h2.kept hk (hS p h3.1) (fun k hk => hS k hk.2.1), h3, h4⟩
theorem St.below' (h : St w0 w va vb m la lb B tp t X) (hb : Below w.heap.size w w1) : St w0 w1 va vb m la lb B tp t X :=
  ⟨h.ds.kept (Kept.of_below hb (fun _ => False)) (fun _ _ _ => id), h.rs.kept (Kept.of_below hb (fun _ => False)) (fun _ _ => id), h.tape.kept (Kept.of_below hb (fun _ => False)) id,
    below_then h.below h.below.size hb, h.tpB, Nat.le_trans h.size hb.size, fun k hk => Nat.lt_of_lt_of_le (h.xs k hk) hb.size⟩
theorem St.alloc (h : St w0 w va vb m la lb B tp t X) (o : Obj) : St w0 (w.alloc o) va vb m la lb B tp t X := h.below' (below_alloc (Below.refl _ _) _)
theorem St.drawn (h : St w0 w va vb m la lb B tp t X) (hd : Drawn0 w w1) : St w0 w1 va vb m la lb B tp t X := h.below' hd.below
theorem St.drewN (h : St w0 w va vb m la lb B tp t X) (n : Nat) : St w0 (w.drewN n) va vb m la lb B tp t X := h.below' (pw_below_drewN (Below.refl _ _) n)

/-- Behind a call on the program's deque. -/
theorem St.afterA {la' : List S32} (h : St w0 w va vb m la lb B tp t X) (hd : DS w0 w1 va m la' B tp) (hb : Below w0.heap.size w0 w1) (hk : Kept w w1 (fun k => k < B ∧ k ≠ tp)) : St w0 w1 va vb m la' lb B tp t X :=
  ⟨hd, h.rs.kept hk (fun k hk hs => by have := hs.1; omega), h.tape.kept hk (fun hs => hs.2 rfl), hb, h.tpB, Nat.le_trans h.size hk.1, fun k hx => Nat.lt_of_lt_of_le (h.xs k hx) hk.1⟩
/-- Behind a call on the reference's deque. -/
theorem St.afterB {lb' : List S32} (h : St w0 w va vb m la lb B tp t X) (hd : RS w0 w1 vb m lb' B X) (hb : Below w0.heap.size w0 w1) (hk : Kept w w1 (fun k => B ≤ k ∧ ¬ X k)) : St w0 w1 va vb m la lb' B tp t X :=
  ⟨h.ds.kept hk (fun k h1 _ hs => by have := hs.1; omega), hd, h.tape.kept hk (fun hs => by have := h.tpB; have := hs.1; omega), hb, h.tpB, Nat.le_trans h.size hk.1, fun k hx => Nat.lt_of_lt_of_le (h.xs k hx) hk.1⟩
/-- Behind a choice of the tape. -/
theorem St.afterT (h : St w0 w va vb m la lb B tp t X) (hd : OnTape w0 w1 tp t) (hb : Below w0.heap.size w0 w1) (hk : Kept w w1 (fun k => k = tp)) : St w0 w1 va vb m la lb B tp t X :=
  ⟨h.ds.kept hk (fun k _ h2 hs => h2 hs), h.rs.kept hk (fun k h1 hs => by have := h.tpB; omega), hd, hb, h.tpB, Nat.le_trans h.size hk.1, fun k hx => Nat.lt_of_lt_of_le (h.xs k hx) hk.1⟩

theorem next_st (n : Int) (h : St w0 w va vb m la lb B tp t X) (hl : t.length ≤ 9223372036854775807) (hn : 1 ≤ n) (hb : n ≤ 4611686018427387904) :
    Calls Try.prog 10 #[.pointer (some ⟨tp, 0, none⟩), .int .i64 n] w fun e w' => ∃ r : Int, e = .returned (.int .i64 r) ∧ 0 ≤ r ∧ r < n ∧ St w0 w' va vb m la lb B tp t X ∧ Kept w w' (fun k => k = tp) := by
  refine (next_calls n h.tape h.below hl hn hb).mono ?_
  rintro e w' ⟨r, he, r0, r1, a, b, c⟩
  exact ⟨r, he, r0, r1, h.afterT a b c, c⟩
theorem left_st (h : St w0 w va vb m la lb B tp t X) :
    Calls Try.prog 16 #[.pointer (some ⟨tp, 0, none⟩)] w fun e w' => ∃ r : Bool, e = .returned (.bool r) ∧ St w0 w' va vb m la lb B tp t X ∧ Kept w w' (fun k => k = tp) := by
  refine (left_calls h.tape h.below).mono ?_
  rintro e w' ⟨r, he, a, b, c⟩
  exact ⟨r, he, h.afterT a b c, c⟩

theorem kA {p g : Nat} (hp : p < B) (hg : g < B) (hp' : p ≠ tp) (hg' : g ≠ tp) (hk : Kept w w1 (fun k => k = p ∨ k = g)) : Kept w w1 (fun k => k < B ∧ k ≠ tp) :=
  hk.mono (fun k hs => hs.elim (fun e => by rw [e]; exact ⟨hp, hp'⟩) (fun e => by rw [e]; exact ⟨hg, hg'⟩))
theorem kB {p : Nat} (hp : B ≤ p ∧ ¬ X p) (hk : Kept w w1 (fun k => k = p ∨ (k ≠ p ∧ B ≤ k ∧ ¬ X k))) : Kept w w1 (fun k => B ≤ k ∧ ¬ X k) :=
  hk.mono (fun k hs => hs.elim (fun e => by rw [e]; exact hp) (fun e => e.2))

theorem pushA (x : S32) (h : St w0 w va vb m la lb B tp t X) :
    Calls Try.prog 9 #[va, refV x] w fun e w' => e = .returned (.int .i64 (pushR m la)) ∧ St w0 w' va vb m (pushL m la x) lb B tp t X ∧ Kept w w' (fun k => k < B ∧ k ≠ tp) := by
  cases m with
  | none =>
    obtain ⟨rfl, rfl⟩ := h.ds
    refine (Dq.push_nil _ _ w).mono ?_
    rintro e w' ⟨rfl, hb⟩
    exact ⟨rfl, h.below' hb, Kept.of_below hb _⟩
  | some c =>
    obtain ⟨p, g, q, rfl, h2, h3, h4, h5, h6⟩ := h.ds
    by_cases hl : la.length < c
    · refine (Dq.push_ok x h2 h.below hl).mono ?_
      rintro e w' ⟨rfl, a, b, k⟩
      simp only [pushR, pushL, if_pos hl]
      exact ⟨trivial, h.afterA ⟨p, g, q, rfl, a, h3, h4, h5, h6⟩ b (kA h3 h4 h5 h6 k), kA h3 h4 h5 h6 k⟩
    · have hc := h2.len
      have e : la.length = c := by omega
      have hc2 := h2.c2
      rw [e] at hc2
      refine (Dq.push_full p g c _ _ w h2.cap.1 h2.cap.2 (blk_lt h2.obj) h2.c0 hc2).mono ?_
      rintro e w' ⟨rfl, hb⟩
      simp only [pushR, pushL, if_neg hl]
      exact ⟨trivial, h.below' hb, Kept.of_below hb _⟩

theorem pushB (x : S32) (h : St w0 w va vb m la lb B tp t X) :
    Calls Try.prog 17 #[vb, refV x] w fun e w' => e = .returned (.int .i64 (pushR m lb)) ∧ St w0 w' va vb m la (pushL m lb x) B tp t X ∧ Kept w w' (fun k => B ≤ k ∧ ¬ X k) := by
  cases m with
  | none =>
    obtain ⟨rfl, rfl⟩ := h.rs
    refine (Rf.push_nil _ _ w).mono ?_
    rintro e w' ⟨rfl, hb⟩
    exact ⟨rfl, h.below' hb, Kept.of_below hb _⟩
  | some c =>
    obtain ⟨p, rfl, h2, h3, h4, h5, h6⟩ := h.rs
    by_cases hl : lb.length < c
    · refine (Rf.push_ok x h2 h.below (by omega) (by omega)).mono ?_
      rintro e w' ⟨rfl, a, b, k⟩
      simp only [pushR, pushL, if_pos hl]
      exact ⟨trivial, h.afterB ⟨p, rfl, a, h3, h4, h5, by simp; omega⟩ b (kB h3 k), kB h3 k⟩
    · refine (Rf.push_full _ _ h2 (by omega) (by omega)).mono ?_
      rintro e w' ⟨rfl, hb⟩
      simp only [pushR, pushL, if_neg hl]
      exact ⟨trivial, h.below' hb, Kept.of_below hb _⟩

theorem snoc_of (l : List S32) (h : l ≠ []) : l = l.dropLast ++ [popX l] := by
  unfold popX
  rw [List.getLast?_eq_some_getLast h]
  exact (List.dropLast_concat_getLast h).symm
theorem cons_of (l : List S32) (h : l ≠ []) : l = topX l :: l.tail := by
  cases l with
  | nil => exact absurd rfl h
  | cons x l => rfl
theorem zeroV : refV (popX []) = .agg #[.int .i64 0, .int .i64 0] := rfl

theorem popA (h : St w0 w va vb m la lb B tp t X) :
    Calls Try.prog 11 #[va] w fun e w' => e = .returned (.tuple #[refV (popX la), .bool (!la.isEmpty)]) ∧ St w0 w' va vb m la.dropLast lb B tp t X ∧ Kept w w' (fun k => k < B ∧ k ≠ tp) := by
  cases m with
  | none =>
    obtain ⟨rfl, rfl⟩ := h.ds
    refine (Dq.pop_nil w).mono ?_
    rintro e w' ⟨rfl, hb⟩
    exact ⟨rfl, h.below' hb, Kept.of_below hb _⟩
  | some c =>
    obtain ⟨p, g, q, rfl, h2, h3, h4, h5, h6⟩ := h.ds
    by_cases hl : la = []
    · subst hl
      refine (Dq.pop_none p w (blk_lt h2.obj) h2.c2).mono ?_
      rintro e w' ⟨rfl, hb⟩
      exact ⟨rfl, h.below' hb, Kept.of_below hb _⟩
    · have h2' := h2
      rw [snoc_of la hl] at h2'
      refine (Dq.pop_ok h2' h.below).mono ?_
      rintro e w' ⟨rfl, a, b, k⟩
      refine ⟨?_, h.afterA ⟨p, g, q, rfl, a, h3, h4, h5, h6⟩ b (kA h3 h4 h5 h6 k), kA h3 h4 h5 h6 k⟩
      cases la with
      | nil => exact absurd rfl hl
      | cons x l => rfl

theorem popB (h : St w0 w va vb m la lb B tp t X) :
    Calls Try.prog 18 #[vb] w fun e w' => e = .returned (.tuple #[refV (popX lb), .bool (!lb.isEmpty)]) ∧ St w0 w' va vb m la lb.dropLast B tp t X ∧ Kept w w' (fun k => B ≤ k ∧ ¬ X k) := by
  cases m with
  | none =>
    obtain ⟨rfl, rfl⟩ := h.rs
    refine (Rf.pop_nil w).mono ?_
    rintro e w' ⟨rfl, hb⟩
    exact ⟨rfl, h.below' hb, Kept.of_below hb _⟩
  | some c =>
    obtain ⟨p, rfl, h2, h3, h4, h5, h6⟩ := h.rs
    by_cases hl : lb = []
    · subst hl
      obtain ⟨v, r1, r2⟩ := h2.row
      obtain ⟨A, n, rfl⟩ := Kd.R_slice r2
      refine (Rf.pop_none p n A w (blk_lt r1) ((blk_cell r1 1).trans rfl)).mono ?_
      rintro e w' ⟨rfl, hb⟩
      exact ⟨rfl, h.below' hb, Kept.of_below hb _⟩
    · have h2' := h2
      have hlen : lb.dropLast.length < 256 := by
        have h1 : 0 < lb.length := List.length_pos_iff.2 hl
        rw [List.length_dropLast]; omega
      rw [snoc_of lb hl] at h2'
      refine (Rf.pop_ok h2' h.below hlen).mono ?_
      rintro e w' ⟨rfl, a, b, k⟩
      refine ⟨?_, h.afterB ⟨p, rfl, a, h3, h4, h5, by rw [List.length_dropLast]; omega⟩ b (kB h3 k), kB h3 k⟩
      cases lb with
      | nil => exact absurd rfl hl
      | cons x l => rfl

theorem stealA (h : St w0 w va vb m la lb B tp t X) :
    Calls Try.prog 12 #[va] w fun e w' => e = .returned (.tuple #[refV (topX la), .bool (!la.isEmpty)]) ∧ St w0 w' va vb m la.tail lb B tp t X ∧ Kept w w' (fun k => k < B ∧ k ≠ tp) := by
  cases m with
  | none =>
    obtain ⟨rfl, rfl⟩ := h.ds
    refine (Dq.steal_nil w).mono ?_
    rintro e w' ⟨rfl, hb⟩
    exact ⟨rfl, h.below' hb, Kept.of_below hb _⟩
  | some c =>
    obtain ⟨p, g, q, rfl, h2, h3, h4, h5, h6⟩ := h.ds
    cases la with
    | nil =>
      refine (Dq.steal_none p w (blk_lt h2.obj) h2.c2).mono ?_
      rintro e w' ⟨rfl, hb⟩
      exact ⟨rfl, h.below' hb, Kept.of_below hb _⟩
    | cons x l =>
      refine (Dq.steal_ok h2 h.below).mono ?_
      rintro e w' ⟨rfl, ⟨q', a⟩, b, k⟩
      exact ⟨rfl, h.afterA ⟨p, g, q', rfl, a, h3, h4, h5, h6⟩ b (kA h3 h4 h5 h6 k), kA h3 h4 h5 h6 k⟩

theorem stealB (h : St w0 w va vb m la lb B tp t X) :
    Calls Try.prog 19 #[vb] w fun e w' => e = .returned (.tuple #[refV (topX lb), .bool (!lb.isEmpty)]) ∧ St w0 w' va vb m la lb.tail B tp t X ∧ Kept w w' (fun k => B ≤ k ∧ ¬ X k) := by
  cases m with
  | none =>
    obtain ⟨rfl, rfl⟩ := h.rs
    refine (Rf.steal_nil w).mono ?_
    rintro e w' ⟨rfl, hb⟩
    exact ⟨rfl, h.below' hb, Kept.of_below hb _⟩
  | some c =>
    obtain ⟨p, rfl, h2, h3, h4, h5, h6⟩ := h.rs
    cases lb with
    | nil =>
      obtain ⟨v, r1, r2⟩ := h2.row
      obtain ⟨A, n, rfl⟩ := Kd.R_slice r2
      refine (Rf.steal_none p n A w (blk_lt r1) ((blk_cell r1 1).trans rfl)).mono ?_
      rintro e w' ⟨rfl, hb⟩
      exact ⟨rfl, h.below' hb, Kept.of_below hb _⟩
    | cons x l =>
      have h6' : l.length + 1 ≤ c := h6
      refine (Rf.steal_ok h2 h.below (by omega)).mono ?_
      rintro e w' ⟨rfl, a, b, k⟩
      exact ⟨rfl, h.afterB ⟨p, rfl, a, h3, h4, h5, by show l.length ≤ c; omega⟩ b (kB h3 k), kB h3 k⟩

theorem removeA (job : Int) (h : St w0 w va vb m la lb B tp t X) :
    Calls Try.prog 20 #[va, .int .i64 job] w fun e w' => e = .returned (.int .i64 (la.length - (keep job la).length)) ∧ St w0 w' va vb m (keep job la) lb B tp t X ∧ Kept w w' (fun k => k < B ∧ k ≠ tp) := by
  cases m with
  | none =>
    obtain ⟨rfl, rfl⟩ := h.ds
    refine (Dq.remove_nil job w).mono ?_
    rintro e w' ⟨rfl, rfl⟩
    exact ⟨rfl, h, Kept.refl _ _⟩
  | some c =>
    obtain ⟨p, g, q, rfl, h2, h3, h4, h5, h6⟩ := h.ds
    refine (Dq.remove_calls job h2 h.below).mono ?_
    rintro e w' ⟨rfl, a, b, k⟩
    exact ⟨rfl, h.afterA ⟨p, g, 0, rfl, a, h3, h4, h5, h6⟩ b (kA h3 h4 h5 h6 k), kA h3 h4 h5 h6 k⟩

theorem removeB (job : Int) (h : St w0 w va vb m la lb B tp t X) :
    Calls Try.prog 21 #[vb, .int .i64 job] w fun e w' => e = .returned (.int .i64 (lb.length - (keep job lb).length)) ∧ St w0 w' va vb m la (keep job lb) B tp t X ∧ Kept w w' (fun k => B ≤ k ∧ ¬ X k) := by
  cases m with
  | none =>
    obtain ⟨rfl, rfl⟩ := h.rs
    refine (Rf.remove_nil job w).mono ?_
    rintro e w' ⟨rfl, rfl⟩
    exact ⟨rfl, h, Kept.refl _ _⟩
  | some c =>
    obtain ⟨p, rfl, h2, h3, h4, h5, h6⟩ := h.rs
    refine (ref_remove job h2 h.below (by omega)).mono ?_
    rintro e w' ⟨rfl, a, b, k⟩
    exact ⟨rfl, h.afterB ⟨p, rfl, a, h3, h4, h5, by have := keep_length job lb; omega⟩ b (kB h3 k), kB h3 k⟩

theorem lenA (h : St w0 w va vb m la lb B tp t X) : Calls Try.prog 13 #[va] w fun e w' => e = .returned (.int .i64 la.length) ∧ w = w' := by
  cases m with
  | none => obtain ⟨rfl, rfl⟩ := h.ds; exact Dq.len_nil w
  | some c => obtain ⟨p, g, q, rfl, h2, _⟩ := h.ds; exact Dq.len_calls p _ w h2.c2
theorem lenB (h : St w0 w va vb m la lb B tp t X) : Calls Try.prog 25 #[vb] w fun e w' => e = .returned (.int .i64 lb.length) ∧ w = w' := by
  cases m with
  | none => obtain ⟨rfl, rfl⟩ := h.rs; exact Rf.len_nil w
  | some c =>
    obtain ⟨p, rfl, h2, _⟩ := h.rs
    obtain ⟨v, r1, r2⟩ := h2.row
    obtain ⟨A, n, rfl⟩ := Kd.R_slice r2
    exact Rf.len_calls p _ n A w ((blk_cell r1 1).trans rfl)

theorem listA (h : St w0 w va vb m la lb B tp t X) : Calls Try.prog 26 #[va] w fun e w' => ∃ v, e = .returned v ∧ Kd.R k32 32 w' w.heap.size (fun _ => True) v la ∧ Below w.heap.size w w' := by
  cases m with
  | none =>
    obtain ⟨rfl, rfl⟩ := h.ds
    refine (Dq.list_nil w).mono ?_
    rintro e w' ⟨rfl, rfl⟩
    exact ⟨_, rfl, Kd.R_nil _ _ _ _ _, Below.refl _ _⟩
  | some c => obtain ⟨p, g, q, rfl, h2, _⟩ := h.ds; exact Dq.list_calls h2
theorem listB (h : St w0 w va vb m la lb B tp t X) : Calls Try.prog 27 #[vb] w fun e w' => ∃ v, e = .returned v ∧ Kd.R k32 32 w' w.heap.size (fun _ => True) v lb ∧ Below w.heap.size w w' := by
  cases m with
  | none =>
    obtain ⟨rfl, rfl⟩ := h.rs
    refine (Rf.list_nil w).mono ?_
    rintro e w' ⟨rfl, rfl⟩
    exact ⟨_, rfl, Kd.R_nil _ _ _ _ _, Below.refl _ _⟩
  | some c => obtain ⟨p, rfl, h2, h3, h4, h5, h6⟩ := h.rs; exact Rf.list_calls h2 (by omega)

theorem drainA (h : St w0 w va vb m la lb B tp t X) : Calls Try.prog 23 #[va] w fun e w' => ∃ v, e = .returned v ∧ Kd.R k32 32 w' w.heap.size (fun k => w.heap.size ≤ k) v la ∧ St w0 w' va vb m [] lb B tp t X := by
  cases m with
  | none =>
    obtain ⟨rfl, rfl⟩ := h.ds
    refine (Dq.drain_nil w).mono ?_
    rintro e w' ⟨rfl, rfl⟩
    exact ⟨_, rfl, Kd.R_nil _ _ _ _ _, h⟩
  | some c =>
    obtain ⟨p, g, q, rfl, h2, h3, h4, h5, h6⟩ := h.ds
    refine (Dq.drain_calls h2 h.below).mono ?_
    rintro e w' ⟨v, rfl, r, a, b, k⟩
    exact ⟨_, rfl, Kd.R_mono (Kd.R_bound r) (fun k hk => hk.2.1), h.afterA ⟨p, g, 0, rfl, a, h3, h4, h5, h6⟩ b (kA h3 h4 h5 h6 k)⟩

/-- Behind it a row that was made at u or later, u behind the deque's own block, is as it was. -/
theorem drainB {u base : Nat} {v1 : Value} {l1 : List S32} (h : St w0 w va vb m la lb B tp t X) (hu : ∀ p, vb = .pointer (some ⟨p, 0, none⟩) → p < u) (h1 : Kd.R k32 32 w base (fun k => u ≤ k) v1 l1) :
    Calls Try.prog 24 #[vb] w fun e w' => ∃ v, e = .returned v ∧ Kd.R k32 32 w' w0.heap.size (fun _ => True) v lb ∧ Kd.R k32 32 w' base (fun k => u ≤ k) v1 l1 ∧ St w0 w' va vb m la [] B tp t X := by
  cases m with
  | none =>
    obtain ⟨rfl, rfl⟩ := h.rs
    refine (Rf.drain_nil w).mono ?_
    rintro e w' ⟨rfl, rfl⟩
    exact ⟨_, rfl, Kd.R_nil _ _ _ _ _, h1, h⟩
  | some c =>
    obtain ⟨p, rfl, h2, h3, h4, h5, h6⟩ := h.rs
    refine (Rf.drain_calls h2 h.below).mono ?_
    rintro e w' ⟨v, rfl, r, a, b, k⟩
    have hp := hu p rfl
    exact ⟨_, rfl, Kd.R_mono r (fun _ _ => trivial), Kd.R_kept h1 k (fun k hk e => by have : k = p := e; omega), h.afterB ⟨p, rfl, a, h3, h4, h5, by simp⟩ b (k.mono (fun k hs => by rw [show k = p from hs]; exact h3))⟩

theorem St.vb_lt (h : St w0 w va vb m la lb B tp t X) : ∀ p, vb = .pointer (some ⟨p, 0, none⟩) → p < w.heap.size := by
  intro q hq
  cases m with
  | none =>
    obtain ⟨rfl, _⟩ := h.rs
    simp at hq
  | some c =>
    obtain ⟨p, rfl, h2, _⟩ := h.rs
    obtain ⟨v, r1, _⟩ := h2.row
    simp at hq
    subst hq
    exact blk_lt r1

theorem St.len_le (h : St w0 w va vb m la lb B tp t X) : la.length ≤ 256 := by
  cases m with
  | none => obtain ⟨_, rfl⟩ := h.ds; simp
  | some c =>
    obtain ⟨p, g, q, _, h2, _⟩ := h.ds
    have := h2.len
    have := h2.cap
    omega

/-- A block of the caller's own is laid: no call on the reference's deque writes it. -/
theorem St.lay (h : St w0 w va vb m la lb B tp t X) (o : Obj) : St w0 (w.alloc o) va vb m la lb B tp t (fun k => X k ∨ k = w.heap.size) := by
  have h1 := h.alloc o
  have hs : (w.alloc o).heap.size = w.heap.size + 1 := by simp
  have hx : ∀ k, (X k ∨ k = w.heap.size) → k < (w.alloc o).heap.size := fun k hk => hk.elim (fun hk => h1.xs k hk) (fun e => by omega)
  refine ⟨h1.ds, ?_, h1.tape, h1.below, h1.tpB, h1.size, hx⟩
  cases m with
  | none => exact h1.rs
  | some c =>
    obtain ⟨p, e, r, q1, q2⟩ := h.rs
    obtain ⟨v, r1, r2⟩ := r.row
    have hp := blk_lt r1
    refine ⟨p, e, ⟨⟨v, blk_alloc r1 o, Kd.R_alloc (Kd.R_mono (Kd.R_bound r2) (fun k hk => ⟨hk.1.1, hk.1.2.1, fun hx => hx.elim hk.1.2.2 (fun e => by have := hk.2.2.1; omega)⟩)) o⟩, r.pw, fun h => h.1 rfl, fun k hk => ?_⟩, ⟨q1.1, fun hx => hx.elim q1.2 (fun e => by omega)⟩, q2⟩
    have hf := r.fresh k (by omega)
    exact ⟨hf.1, hf.2.1, fun hx => hx.elim hf.2.2 (fun e => by omega)⟩

/-- The two constructors side by side: both refuse, or both make an empty deque. -/
theorem news {w0 w : World} {tp : Nat} {t : List Int} (c : Int) (ht : OnTape w0 w tp t) (hB : Below w0.heap.size w0 w) : ∃ (m : Option Nat) (r : Int),
    (∀ x y : Value, m = none → True) ∧ Calls Try.prog 8 #[.int .i64 c] w fun e w1 => ∃ va, e = .returned (.tuple #[va, .int .i64 r]) ∧
      Calls Try.prog 15 #[.int .i64 c] w1 fun e w2 => ∃ vb, e = .returned (.tuple #[vb, .int .i64 r]) ∧ ((va = .pointer none ∧ vb = .pointer none) ∨ ((∃ p, va = .pointer (some ⟨p, 0, none⟩)) ∧ ∃ p, vb = .pointer (some ⟨p, 0, none⟩))) ∧ ∃ B, St w0 w2 va vb m [] [] B tp t (fun _ => False) := by
  by_cases hc : c < 1 ∨ 256 < c
  · refine ⟨none, 2, fun _ _ _ => trivial, (Dq.new_bad c hc w).mono ?_⟩
    rintro e w1 ⟨rfl, rfl⟩
    refine ⟨_, rfl, (Rf.new_bad c hc _).mono ?_⟩
    rintro e w2 ⟨rfl, rfl⟩
    exact ⟨_, rfl, .inl ⟨rfl, rfl⟩, w.heap.size, ⟨⟨rfl, rfl⟩, ⟨rfl, rfl⟩, ht, hB, ht.lt, Nat.le_refl _, fun _ h => h.elim⟩⟩
  · obtain ⟨c, rfl⟩ := Int.eq_ofNat_of_zero_le (show 0 ≤ c by omega)
    refine ⟨some c, 0, fun _ _ _ => trivial, (Dq.new_ok c (by omega) (by omega) hB).mono ?_⟩
    rintro e w1 ⟨p, g, rfl, hd, hp, hg, hb⟩
    have htl := ht.lt
    have hB1 := below_then hB hB.size hb
    refine ⟨_, rfl, (Rf.new_ok c (by omega) (by omega) hB1).mono ?_⟩
    rintro e w2 ⟨q, rfl, hr, hq, hb2⟩
    have hpl := blk_lt hd.obj
    obtain ⟨cur, r1, _⟩ := hd.ring
    have hgl := blk_lt r1
    refine ⟨_, rfl, .inr ⟨⟨_, rfl⟩, ⟨_, rfl⟩⟩, w1.heap.size, ⟨⟨p, g, 0, rfl, hd.below hb2, hpl, hgl, by omega, by omega⟩, ⟨q, rfl, ?_, ⟨hq, id⟩, by omega, by omega, by simp⟩, ?_, below_then hB1 hB1.size hb2, ?_, hb2.size, fun _ h => h.elim⟩⟩
    · obtain ⟨v, r1, r2⟩ := hr.row
      exact ⟨⟨v, r1, Kd.R_mono r2 (fun k hk => ⟨hk.1, hk.2, id⟩)⟩, hr.pw, fun h => h.1 rfl, fun k hk => ⟨(hr.fresh k hk).1, (hr.fresh k hk).2, id⟩⟩
    · exact (ht.kept (Kept.of_below hb (fun _ => False)) id).kept (Kept.of_below hb2 (fun _ => False)) id
    · have := hb.size; omega

end
end Go.Proofs.Ytfnplpkplmhhnaa.All
