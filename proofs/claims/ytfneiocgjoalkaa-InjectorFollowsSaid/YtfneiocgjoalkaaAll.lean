/- The program's injector, the reference's and the tape in one state: what each call answers over it. Printed by gen_all.py. -/
import Derived.Test.YtfneiocgjoalkaaBoth
namespace Go.Proofs.Ytfneiocgjoalkaa.All
open Go.RowKit Go.Proofs.YtfneiocgjoalkaaW.PrintWords Go.Proofs.YtfneiocgjoalkaaW.PrintLast Go.Proofs.YtfneiocgjoalkaaW.PrintMore
open Go.Proofs.Ytfneiocgjoalkaa.PInjectorFollows
open Go.Proofs.Ytfneiocgjoalkaa.Ij Go.Proofs.Ytfneiocgjoalkaa.Rm Go.Proofs.Ytfneiocgjoalkaa.Rf Go.Proofs.Ytfneiocgjoalkaa.Both Go.Proofs.Ytfneiocgjoalkaa.Tp
set_option linter.unusedVariables false

/-! ### What the calls answer; m: the capacity, none for a nil injector -/
def pushR (m : Option Int) (L : Nat → List S33) (b : Int) : Int := match m with | none => 20 | some c => if 0 ≤ b ∧ b < 4 then (if (tot L : Int) < c then 0 else 19) else 2
def pushL (m : Option Int) (L : Nat → List S33) (x : S33) (b : Int) : Nat → List S33 := match m with | none => L | some c => if 0 ≤ b ∧ b < 4 then (if (tot L : Int) < c then upd L b.toNat (L b.toNat ++ [x]) else L) else L
def popR (L : Nat → List S33) : S33 × Bool × (Nat → List S33) :=
  match L 0 with
  | x :: xs => (x, true, upd L 0 xs)
  | [] => match L 1 with
    | x :: xs => (x, true, upd L 1 xs)
    | [] => match L 2 with
      | x :: xs => (x, true, upd L 2 xs)
      | [] => match L 3 with
        | x :: xs => (x, true, upd L 3 xs)
        | [] => (⟨0, 0⟩, false, L)
def listL (L : Nat → List S33) (b : Int) : List S33 := if 0 ≤ b ∧ b < 4 then L b.toNat else []

theorem popR_is (L : Nat → List S33) : ((∀ b, b < 4 → L b = []) ∧ popR L = (⟨0, 0⟩, false, L)) ∨ ∃ b x xs, b < 4 ∧ (∀ j, j < b → L j = []) ∧ L b = x :: xs ∧ popR L = (x, true, upd L b xs) := by
  unfold popR
  rcases h0 : L 0 with _ | ⟨x, xs⟩
  · rcases h1 : L 1 with _ | ⟨x, xs⟩
    · rcases h2 : L 2 with _ | ⟨x, xs⟩
      · rcases h3 : L 3 with _ | ⟨x, xs⟩
        · exact .inl ⟨fun b hb => by rcases (by omega : b = 0 ∨ b = 1 ∨ b = 2 ∨ b = 3) with rfl | rfl | rfl | rfl <;> assumption, rfl⟩
        · exact .inr ⟨3, x, xs, by omega, fun j hj => by rcases (by omega : j = 0 ∨ j = 1 ∨ j = 2) with rfl | rfl | rfl <;> assumption, h3, rfl⟩
      · exact .inr ⟨2, x, xs, by omega, fun j hj => by rcases (by omega : j = 0 ∨ j = 1) with rfl | rfl <;> assumption, h2, rfl⟩
    · exact .inr ⟨1, x, xs, by omega, fun j hj => by obtain rfl : j = 0 := by omega
                                                     assumption, h1, rfl⟩
  · exact .inr ⟨0, x, xs, by omega, fun j hj => by omega, h0, rfl⟩

/-- An injector, nil or not. -/
def SA (T : TypeId) (w0 w : World) (v : Value) (m : Option Int) (L : Nat → List S33) (F : Nat → Prop) : Prop :=
  match m with
  | none => v = .pointer none ∧ L = (fun _ => [])
  | some c => ∃ p, v = .pointer (some ⟨p, 0, none⟩) ∧ Ij T w0 w p c F L ∧ 1 ≤ c ∧ c ≤ 4096 ∧ (tot L : Int) ≤ c

def own (v : Value) (F : Nat → Prop) (k : Nat) : Prop := v = .pointer (some ⟨k, 0, none⟩) ∨ F k

section
variable {T T1 T2 : TypeId} {w0 w w1 : World} {v va vb : Value} {m : Option Int} {L L2 L' : Nat → List S33} {F F2 S X : Nat → Prop} {tp : Nat} {t : List Int}

theorem SA.kept (H : SA T w0 w v m L F) (hk : Kept w w1 S) (hS : ∀ k, k < w.heap.size → own v F k → ¬ S k) : SA T w0 w1 v m L (fun k => F k ∧ (k < w.heap.size ∨ w1.heap.size ≤ k)) := by
  cases m with
  | none => exact H
  | some c =>
    obtain ⟨p, rfl, a, b⟩ := H
    obtain ⟨vs, r1, r2, r3⟩ := a.row
    refine ⟨p, rfl, ⟨⟨vs, blk_kept r1 hk (hS p (blk_lt r1) (.inl rfl)), fun j hj => ?_, r3⟩, a.pw, fun h => a.out h.1, fun k hk' => ⟨a.fresh k (Nat.le_trans hk.1 hk'), .inr hk'⟩⟩, b⟩
    have r4 := Kd.Q_mono (Kd.Q_bound (r2 j hj)) (ok' := fun k => F k ∧ k < w.heap.size) (fun k hk => ⟨hk.1, hk.2.2.1⟩)
    exact Kd.Q_mono (Kd.Q_kept r4 hk (fun k hk' => hS k hk'.2 (.inr hk'.1))) (fun k hk => ⟨hk.1, .inl hk.2⟩)
theorem SA.lt (H : SA T w0 w v m L F) (k : Nat) (hv : v = .pointer (some ⟨k, 0, none⟩)) : k < w.heap.size := by
  cases m with
  | none => obtain ⟨rfl, _⟩ := H; simp at hv
  | some c =>
    obtain ⟨p, rfl, a, b⟩ := H
    simp at hv
    subst hv
    exact a.lt
theorem SA.below (H : SA T w0 w v m L F) (hb : Below w.heap.size w w1) : SA T w0 w1 v m L F := by
  cases m with
  | none => exact H
  | some c =>
    obtain ⟨p, rfl, a, b⟩ := H
    exact ⟨p, rfl, a.below hb, b⟩
theorem SA.tot_le (H : SA T w0 w v m L F) : tot L ≤ 4096 := by
  cases m with
  | none => obtain ⟨_, rfl⟩ := H; simp [tot]
  | some c => obtain ⟨p, _, _, h1, h2, h3⟩ := H; omega

/-- Two injectors and the tape; X: blocks that no call writes. -/
structure Two (T1 T2 : TypeId) (w0 w : World) (va vb : Value) (m : Option Int) (L L2 : Nat → List S33) (tp : Nat) (t : List Int) (X F F2 : Nat → Prop) : Prop where
  a : SA T1 w0 w va m L F
  b : SA T2 w0 w vb m L2 F2
  tape : OnTape w0 w tp t
  below : Below w0.heap.size w0 w
  dis : ∀ k, k < w.heap.size → own va F k → ¬ own vb F2 k
  ta : ¬ own va F tp
  tb : ¬ own vb F2 tp
  xs : ∀ k, X k → k < w.heap.size ∧ ¬ own va F k ∧ ¬ own vb F2 k ∧ k ≠ tp

theorem Two.swap (H : Two T1 T2 w0 w va vb m L L2 tp t X F F2) : Two T2 T1 w0 w vb va m L2 L tp t X F2 F :=
  ⟨H.b, H.a, H.tape, H.below, fun k hk a b => H.dis k hk b a, H.tb, H.ta, fun k hk => ⟨(H.xs k hk).1, (H.xs k hk).2.2.1, (H.xs k hk).2.1, (H.xs k hk).2.2.2⟩⟩

theorem Two.after (H : Two T1 T2 w0 w va vb m L L2 tp t X F F2) (ha : SA T1 w0 w1 va m L' F) (hb : Below w0.heap.size w0 w1) (hk : Kept w w1 (own va F)) :
    (∃ F2, Two T1 T2 w0 w1 va vb m L' L2 tp t X F F2) ∧ Kept w w1 (fun k => ¬ X k) := by
  refine ⟨⟨_, ha, H.b.kept hk (fun k h1 h2 h3 => H.dis k h1 h3 h2), H.tape.kept hk H.ta, hb, fun k h1 h2 h3 => ?_, H.ta, fun h => H.tb (h.imp id (fun h => h.1)), fun k hx => ?_⟩, hk.mono (fun k h hx => (H.xs k hx).2.1 h)⟩
  · rcases h3 with h3 | h3
    · exact H.dis k (H.b.lt k h3) h2 (.inl h3)
    · exact H.dis k (h3.2.elim id (fun h => by omega)) h2 (.inr h3.1)
  · obtain ⟨x1, x2, x3, x4⟩ := H.xs k hx
    exact ⟨Nat.lt_of_lt_of_le x1 hk.1, x2, fun h => x3 (h.imp id (fun h => h.1)), x4⟩

/-- Both injectors' state, whatever blocks they own. -/
def St (w0 w : World) (va vb : Value) (m : Option Int) (L L2 : Nat → List S33) (tp : Nat) (t : List Int) (X : Nat → Prop) : Prop := ∃ F F2, Two 49 55 w0 w va vb m L L2 tp t X F F2

theorem St.below (H : St w0 w va vb m L L2 tp t X) : Below w0.heap.size w0 w := by obtain ⟨F, F2, H⟩ := H; exact H.below
theorem St.tape (H : St w0 w va vb m L L2 tp t X) : OnTape w0 w tp t := by obtain ⟨F, F2, H⟩ := H; exact H.tape
theorem St.tot_le (H : St w0 w va vb m L L2 tp t X) : tot L ≤ 4096 := by obtain ⟨F, F2, H⟩ := H; exact H.a.tot_le
theorem St.forget (H : St w0 w va vb m L L2 tp t X) : St w0 w va vb m L L2 tp t (fun _ => False) := by
  obtain ⟨F, F2, H⟩ := H
  exact ⟨F, F2, H.a, H.b, H.tape, H.below, H.dis, H.ta, H.tb, fun _ h => h.elim⟩
theorem St.below' (H : St w0 w va vb m L L2 tp t X) (hb : Below w.heap.size w w1) : St w0 w1 va vb m L L2 tp t X := by
  obtain ⟨F, F2, H⟩ := H
  obtain ⟨⟨F3, H⟩, _⟩ := H.after (H.a.below hb) (below_then H.below H.below.size hb) (Kept.of_below hb _)
  exact ⟨F, F3, H⟩
/-- A block of the caller's own is laid. -/
theorem St.lay (H : St w0 w va vb m L L2 tp t X) (o : Obj) : St w0 (w.alloc o) va vb m L L2 tp t (fun k => X k ∨ k = w.heap.size) := by
  obtain ⟨F, F2, H⟩ := H
  have hb := below_alloc (Below.refl w.heap.size w) o
  have hs : (w.alloc o).heap.size = w.heap.size + 1 := by simp
  have htl := H.tape.lt
  refine ⟨_, _, H.a.kept (Kept.of_below hb (fun _ => False)) (fun _ _ _ => id), H.b.kept (Kept.of_below hb (fun _ => False)) (fun _ _ _ => id), H.tape.below hb, below_then H.below H.below.size hb, fun k h1 h2 h3 => ?_, fun h => H.ta (h.imp id (fun h => h.1)), fun h => H.tb (h.imp id (fun h => h.1)), fun k hx => ?_⟩
  · have hlt : k < w.heap.size := by
      rcases h2 with h2 | h2
      · exact H.a.lt k h2
      · exact h2.2.elim id (fun h => by omega)
    exact H.dis k hlt (h2.imp id (fun h => h.1)) (h3.imp id (fun h => h.1))
  · rcases hx with hx | rfl
    · obtain ⟨x1, x2, x3, x4⟩ := H.xs k hx
      exact ⟨by omega, fun h => x2 (h.imp id (fun h => h.1)), fun h => x3 (h.imp id (fun h => h.1)), x4⟩
    · refine ⟨by omega, fun h => ?_, fun h => ?_, by omega⟩
      · rcases h with h | h
        · have := H.a.lt _ h; omega
        · exact h.2.elim (fun h => by omega) (fun h => by omega)
      · rcases h with h | h
        · have := H.b.lt _ h; omega
        · exact h.2.elim (fun h => by omega) (fun h => by omega)
theorem St.afterT (H : St w0 w va vb m L L2 tp t X) (ht : OnTape w0 w1 tp t) (hb : Below w0.heap.size w0 w1) (hk : Kept w w1 (fun k => k = tp)) : St w0 w1 va vb m L L2 tp t X ∧ Kept w w1 (fun k => ¬ X k) := by
  obtain ⟨F, F2, H⟩ := H
  refine ⟨⟨_, _, H.a.kept hk (fun k h1 h2 h3 => H.ta (by rw [← show k = tp from h3]; exact h2)), H.b.kept hk (fun k h1 h2 h3 => H.tb (by rw [← show k = tp from h3]; exact h2)), ht, hb, fun k h1 h2 h3 => ?_, fun h => H.ta (h.imp id (fun h => h.1)), fun h => H.tb (h.imp id (fun h => h.1)), fun k hx => ?_⟩, hk.mono (fun k h hx => (H.xs k hx).2.2.2 h)⟩
  · have hlt : k < w.heap.size := by
      rcases h2 with h2 | h2
      · exact H.a.lt k h2
      · exact h2.2.elim id (fun h => by omega)
    exact H.dis k hlt (h2.imp id (fun h => h.1)) (h3.imp id (fun h => h.1))
  · obtain ⟨x1, x2, x3, x4⟩ := H.xs k hx
    exact ⟨Nat.lt_of_lt_of_le x1 hk.1, fun h => x2 (h.imp id (fun h => h.1)), fun h => x3 (h.imp id (fun h => h.1)), x4⟩

theorem St.next (n : Int) (H : St w0 w va vb m L L2 tp t X) (hl : t.length ≤ 9223372036854775807) (hn : 1 ≤ n) (hb : n ≤ 4611686018427387904) :
    Calls Try.prog 9 #[.pointer (some ⟨tp, 0, none⟩), .int .i64 n] w fun e w' => ∃ r : Int, e = .returned (.int .i64 r) ∧ 0 ≤ r ∧ r < n ∧ St w0 w' va vb m L L2 tp t X ∧ Kept w w' (fun k => ¬ X k) := by
  refine (next_calls n H.tape H.below hl hn hb).mono ?_
  rintro e w' ⟨r, he, r0, r1, a, b, k⟩
  exact ⟨r, he, r0, r1, H.afterT a b k⟩
theorem St.left (H : St w0 w va vb m L L2 tp t X) :
    Calls Try.prog 15 #[.pointer (some ⟨tp, 0, none⟩)] w fun e w' => ∃ r : Bool, e = .returned (.bool r) ∧ St w0 w' va vb m L L2 tp t X := by
  refine (left_calls H.tape H.below).mono ?_
  rintro e w' ⟨r, he, a, b, k⟩
  exact ⟨r, he, (H.afterT a b k).1⟩
theorem St.pick (xs : List Int) {b : Nat} (H : St w0 w va vb m L L2 tp t X) (hl : t.length ≤ 9223372036854775807) (h1 : 1 ≤ xs.length) (h3 : xs.length ≤ 100) (hb : w.heap[b]? = some (.cells (xs.map (Value.int .i64)).toArray 3 (0, 0))) (hg : b ≠ tp) :
    Calls Try.prog 16 #[.pointer (some ⟨tp, 0, none⟩), .slice (some ⟨b, 0, none⟩) xs.length xs.length] w fun e w' => ∃ r : Int, e = .returned (.int .i64 r) ∧ r ∈ xs ∧ St w0 w' va vb m L L2 tp t X ∧ Kept w w' (fun k => ¬ X k) := by
  refine (pick_calls xs H.tape H.below hl h1 h3 hb hg).mono ?_
  rintro e w' ⟨r, he, r0, a, b, k⟩
  exact ⟨r, he, r0, H.afterT a b k⟩
theorem kept_own {p : Nat} (hk : Kept w w1 (fun k => k = p ∨ F k)) : Kept w w1 (own (.pointer (some ⟨p, 0, none⟩)) F) := hk.mono (fun k h => h.imp (fun e => by rw [show k = p from e]) id)
end

set_option maxHeartbeats 1000000 in
set_option maxRecDepth 100000 in
theorem remove_nil (job : Int) (w : World) : Calls Try.prog 18 #[.pointer none, .int .i64 job] w fun e w' => e = .returned (.int .i64 0) ∧ Below w.heap.size w w' := by
  go_enter Try.func18, Try.ntmps18
  go_wp2_with fail
  go_ret
  exact ⟨rfl, below_alloc (Below.refl _ _) _⟩

section
variable {w0 w : World} {v : Value} {m : Option Int} {L : Nat → List S33} {F : Nat → Prop}
theorem aS_push (x : S33) (b : Int) (H : SA 49 w0 w v m L F) (hB : Below w0.heap.size w0 w) :
    Calls Try.prog 10 #[v, refV x, .int .i64 b] w fun e w' => e = .returned (.int .i64 (pushR m L b)) ∧ SA 49 w0 w' v m (pushL m L x b) F ∧ Below w0.heap.size w0 w' ∧ Kept w w' (own v F) := by
  cases m with
  | none =>
    obtain ⟨rfl, rfl⟩ := H
    refine (Ij.push_nil x b w).mono ?_
    rintro e w' ⟨rfl, bb⟩
    exact ⟨rfl, ⟨rfl, rfl⟩, below_then hB hB.size bb, Kept.of_below bb _⟩
  | some c =>
    obtain ⟨p, rfl, a, i1, i2, i3⟩ := H
    simp only [pushR, pushL]
    by_cases hb : 0 ≤ b ∧ b < 4
    · simp only [if_pos hb]
      by_cases hl : (tot L : Int) < c
      · simp only [if_pos hl]
        obtain ⟨b, rfl⟩ := Int.eq_ofNat_of_zero_le hb.1
        refine (Ij.push_ok (b := b) x a hB (by omega) (by omega) hl).mono ?_
        rintro e w' ⟨he, q, b1, hk⟩
        have htu := tot_upd L b (by omega) (L b ++ [x])
        simp at htu
        exact ⟨he, ⟨p, rfl, q, i1, i2, by rw [Int.toNat_natCast]; omega⟩, b1, kept_own hk⟩
      · simp only [if_neg hl]
        refine (Ij.push_full x b a i1 hb (by omega) (by omega)).mono ?_
        rintro e w' ⟨he, bb⟩
        exact ⟨he, ⟨p, rfl, a.below bb, i1, i2, i3⟩, below_then hB hB.size bb, Kept.of_below bb _⟩
    · simp only [if_neg hb]
      refine (Ij.push_range x b a i1 hb).mono ?_
      rintro e w' ⟨he, bb⟩
      exact ⟨he, ⟨p, rfl, a.below bb, i1, i2, i3⟩, below_then hB hB.size bb, Kept.of_below bb _⟩
theorem aS_pop (H : SA 49 w0 w v m L F) (hB : Below w0.heap.size w0 w) :
    Calls Try.prog 11 #[v] w fun e w' => e = .returned (.tuple #[refV (popR L).1, .bool (popR L).2.1]) ∧ SA 49 w0 w' v m (popR L).2.2 F ∧ Below w0.heap.size w0 w' ∧ Kept w w' (own v F) := by
  cases m with
  | none =>
    obtain ⟨rfl, rfl⟩ := H
    refine (Ij.pop_nil w).mono ?_
    rintro e w' ⟨rfl, bb⟩
    exact ⟨rfl, ⟨rfl, rfl⟩, below_then hB hB.size bb, Kept.of_below bb _⟩
  | some c =>
    obtain ⟨p, rfl, a, i1, i2, i3⟩ := H
    rcases popR_is L with ⟨he, hp⟩ | ⟨b, x, xs, hb, he, hx, hp⟩
    · rw [hp]
      refine (Ij.pop_none a he).mono ?_
      rintro e w' ⟨rfl, bb⟩
      exact ⟨rfl, ⟨p, rfl, a.below bb, i1, i2, i3⟩, below_then hB hB.size bb, Kept.of_below bb _⟩
    · rw [hp]
      refine (Ij.pop_ok a hB hb he hx (by omega)).mono ?_
      rintro e w' ⟨rfl, q, b1, hk⟩
      have htu := tot_upd L b hb xs
      rw [hx] at htu
      simp at htu
      exact ⟨rfl, ⟨p, rfl, q, i1, i2, by show (tot (upd L b xs) : Int) ≤ c; omega⟩, b1, kept_own hk⟩
theorem aS_remove (job : Int) (H : SA 49 w0 w v m L F) (hB : Below w0.heap.size w0 w) :
    Calls Try.prog 18 #[v, .int .i64 job] w fun e w' => e = .returned (.int .i64 ((tot L : Int) - (tot (keepL job L) : Int))) ∧ SA 49 w0 w' v m (keepL job L) F ∧ Below w0.heap.size w0 w' ∧ Kept w w' (own v F) := by
  cases m with
  | none =>
    obtain ⟨rfl, rfl⟩ := H
    refine (remove_nil job w).mono ?_
    rintro e w' ⟨rfl, bb⟩
    exact ⟨rfl, ⟨rfl, rfl⟩, below_then hB hB.size bb, Kept.of_below bb _⟩
  | some c =>
    obtain ⟨p, rfl, a, i1, i2, i3⟩ := H
    have htk := tot_keep job L
    refine (Rm.remove_calls job a hB (by omega)).mono ?_
    rintro e w' ⟨he, q, b1, hk⟩
    exact ⟨he, ⟨p, rfl, q, i1, i2, by omega⟩, b1, kept_own hk⟩
theorem aS_len (H : SA 49 w0 w v m L F) : Calls Try.prog 12 #[v] w fun e w' => e = .returned (.int .i64 (tot L : Int)) ∧ w = w' := by
  cases m with
  | none => obtain ⟨rfl, rfl⟩ := H; exact Ij.len_nil w
  | some c => obtain ⟨p, rfl, a, _, _, _⟩ := H; exact Ij.len_calls a (by omega)
theorem aS_list (b : Int) (H : SA 49 w0 w v m L F) : Calls Try.prog 22 #[v, .int .i64 b] w fun e w' => ∃ v, e = .returned v ∧ Kd.R k33 33 w' w.heap.size (fun _ => True) v (listL L b) ∧ Below w.heap.size w w' := by
  cases m with
  | none =>
    obtain ⟨rfl, rfl⟩ := H
    refine (Ij.list_nil b w).mono ?_
    rintro e w' ⟨rfl, rfl⟩
    have e1 : listL (fun _ => []) b = [] := by unfold listL; split <;> rfl
    rw [e1]
    exact ⟨_, rfl, Kd.R_nil _ _ _ _ _, Below.refl _ _⟩
  | some c =>
    obtain ⟨p, rfl, a, _, _, _⟩ := H
    unfold listL
    by_cases hb : 0 ≤ b ∧ b < 4
    · rw [if_pos hb]
      obtain ⟨b, rfl⟩ := Int.eq_ofNat_of_zero_le hb.1
      exact Ij.list_ok (b := b) a (by omega) (by omega)
    · rw [if_neg hb]
      refine (Ij.list_bad p b w hb).mono ?_
      rintro e w' ⟨rfl, bl⟩
      exact ⟨_, rfl, Kd.R_nil _ _ _ _ _, bl⟩
end

section
variable {w0 w : World} {v : Value} {m : Option Int} {L : Nat → List S33} {F : Nat → Prop}
theorem bS_push (x : S33) (b : Int) (H : SA 55 w0 w v m L F) (hB : Below w0.heap.size w0 w) :
    Calls Try.prog 17 #[v, refV x, .int .i64 b] w fun e w' => e = .returned (.int .i64 (pushR m L b)) ∧ SA 55 w0 w' v m (pushL m L x b) F ∧ Below w0.heap.size w0 w' ∧ Kept w w' (own v F) := by
  cases m with
  | none =>
    obtain ⟨rfl, rfl⟩ := H
    refine (Rf.pushb_nil x b w).mono ?_
    rintro e w' ⟨rfl, bb⟩
    exact ⟨rfl, ⟨rfl, rfl⟩, below_then hB hB.size bb, Kept.of_below bb _⟩
  | some c =>
    obtain ⟨p, rfl, a, i1, i2, i3⟩ := H
    simp only [pushR, pushL]
    by_cases hb : 0 ≤ b ∧ b < 4
    · simp only [if_pos hb]
      by_cases hl : (tot L : Int) < c
      · simp only [if_pos hl]
        obtain ⟨b, rfl⟩ := Int.eq_ofNat_of_zero_le hb.1
        refine (Rf.pushb_ok (b := b) x a hB (by omega) (by omega) hl).mono ?_
        rintro e w' ⟨he, q, b1, hk⟩
        have htu := tot_upd L b (by omega) (L b ++ [x])
        simp at htu
        exact ⟨he, ⟨p, rfl, q, i1, i2, by rw [Int.toNat_natCast]; omega⟩, b1, kept_own hk⟩
      · simp only [if_neg hl]
        refine (Rf.pushb_full x b a i1 hb (by omega) (by omega)).mono ?_
        rintro e w' ⟨he, bb⟩
        exact ⟨he, ⟨p, rfl, a.below bb, i1, i2, i3⟩, below_then hB hB.size bb, Kept.of_below bb _⟩
    · simp only [if_neg hb]
      refine (Rf.pushb_range x b a i1 hb).mono ?_
      rintro e w' ⟨he, bb⟩
      exact ⟨he, ⟨p, rfl, a.below bb, i1, i2, i3⟩, below_then hB hB.size bb, Kept.of_below bb _⟩
theorem bS_pop (H : SA 55 w0 w v m L F) (hB : Below w0.heap.size w0 w) :
    Calls Try.prog 20 #[v] w fun e w' => e = .returned (.tuple #[refV (popR L).1, .bool (popR L).2.1]) ∧ SA 55 w0 w' v m (popR L).2.2 F ∧ Below w0.heap.size w0 w' ∧ Kept w w' (own v F) := by
  cases m with
  | none =>
    obtain ⟨rfl, rfl⟩ := H
    refine (Rf.popb_nil w).mono ?_
    rintro e w' ⟨rfl, bb⟩
    exact ⟨rfl, ⟨rfl, rfl⟩, below_then hB hB.size bb, Kept.of_below bb _⟩
  | some c =>
    obtain ⟨p, rfl, a, i1, i2, i3⟩ := H
    rcases popR_is L with ⟨he, hp⟩ | ⟨b, x, xs, hb, he, hx, hp⟩
    · rw [hp]
      refine (Rf.popb_none a he).mono ?_
      rintro e w' ⟨rfl, bb⟩
      exact ⟨rfl, ⟨p, rfl, a.below bb, i1, i2, i3⟩, below_then hB hB.size bb, Kept.of_below bb _⟩
    · rw [hp]
      refine (Rf.popb_ok a hB hb he hx (by omega)).mono ?_
      rintro e w' ⟨rfl, q, b1, hk⟩
      have htu := tot_upd L b hb xs
      rw [hx] at htu
      simp at htu
      exact ⟨rfl, ⟨p, rfl, q, i1, i2, by show (tot (upd L b xs) : Int) ≤ c; omega⟩, b1, kept_own hk⟩
theorem bS_remove (job : Int) (H : SA 55 w0 w v m L F) (hB : Below w0.heap.size w0 w) :
    Calls Try.prog 19 #[v, .int .i64 job] w fun e w' => e = .returned (.int .i64 ((tot L : Int) - (tot (keepL job L) : Int))) ∧ SA 55 w0 w' v m (keepL job L) F ∧ Below w0.heap.size w0 w' ∧ Kept w w' (own v F) := by
  cases m with
  | none =>
    obtain ⟨rfl, rfl⟩ := H
    refine (removeb_nil job w).mono ?_
    rintro e w' ⟨rfl, rfl⟩
    exact ⟨rfl, ⟨rfl, rfl⟩, hB, Kept.refl _ _⟩
  | some c =>
    obtain ⟨p, rfl, a, i1, i2, i3⟩ := H
    have htk := tot_keep job L
    refine (removeb_calls job a hB (by omega)).mono ?_
    rintro e w' ⟨he, q, b1, hk⟩
    exact ⟨he, ⟨p, rfl, q, i1, i2, by omega⟩, b1, kept_own hk⟩
theorem bS_len (H : SA 55 w0 w v m L F) : Calls Try.prog 24 #[v] w fun e w' => e = .returned (.int .i64 (tot L : Int)) ∧ w = w' := by
  cases m with
  | none => obtain ⟨rfl, rfl⟩ := H; exact Rf.lenb_nil w
  | some c => obtain ⟨p, rfl, a, _, _, _⟩ := H; exact Rf.lenb_calls a (by omega)
theorem bS_list (b : Int) (H : SA 55 w0 w v m L F) : Calls Try.prog 23 #[v, .int .i64 b] w fun e w' => ∃ v, e = .returned v ∧ Kd.R k33 33 w' w.heap.size (fun _ => True) v (listL L b) ∧ Below w.heap.size w w' := by
  cases m with
  | none =>
    obtain ⟨rfl, rfl⟩ := H
    refine (Rf.listb_nil b w).mono ?_
    rintro e w' ⟨rfl, rfl⟩
    have e1 : listL (fun _ => []) b = [] := by unfold listL; split <;> rfl
    rw [e1]
    exact ⟨_, rfl, Kd.R_nil _ _ _ _ _, Below.refl _ _⟩
  | some c =>
    obtain ⟨p, rfl, a, _, _, _⟩ := H
    unfold listL
    by_cases hb : 0 ≤ b ∧ b < 4
    · rw [if_pos hb]
      obtain ⟨b, rfl⟩ := Int.eq_ofNat_of_zero_le hb.1
      exact Rf.listb_ok (b := b) a (by omega) (by omega)
    · rw [if_neg hb]
      refine (Rf.listb_bad p b w hb).mono ?_
      rintro e w' ⟨rfl, bl⟩
      exact ⟨_, rfl, Kd.R_nil _ _ _ _ _, bl⟩
end

section
variable {w0 w : World} {va vb : Value} {m : Option Int} {L L2 : Nat → List S33} {X : Nat → Prop} {tp : Nat} {t : List Int}
theorem pushA (x : S33) (b : Int) (H : St w0 w va vb m L L2 tp t X) :
    Calls Try.prog 10 #[va, refV x, .int .i64 b] w fun e w' => e = .returned (.int .i64 (pushR m L b)) ∧ St w0 w' va vb m (pushL m L x b) L2 tp t X ∧ Kept w w' (fun k => ¬ X k) := by
  obtain ⟨F, F2, H⟩ := H
  refine (aS_push x b H.a H.below).mono ?_
  rintro e w' ⟨he, a, b, k⟩
  obtain ⟨⟨F3, H⟩, hk⟩ := H.after a b k
  exact ⟨he, ⟨F, F3, H⟩, hk⟩
theorem popA (H : St w0 w va vb m L L2 tp t X) :
    Calls Try.prog 11 #[va] w fun e w' => e = .returned (.tuple #[refV (popR L).1, .bool (popR L).2.1]) ∧ St w0 w' va vb m (popR L).2.2 L2 tp t X ∧ Kept w w' (fun k => ¬ X k) := by
  obtain ⟨F, F2, H⟩ := H
  refine (aS_pop H.a H.below).mono ?_
  rintro e w' ⟨he, a, b, k⟩
  obtain ⟨⟨F3, H⟩, hk⟩ := H.after a b k
  exact ⟨he, ⟨F, F3, H⟩, hk⟩
theorem removeA (job : Int) (H : St w0 w va vb m L L2 tp t X) :
    Calls Try.prog 18 #[va, .int .i64 job] w fun e w' => e = .returned (.int .i64 ((tot L : Int) - (tot (keepL job L) : Int))) ∧ St w0 w' va vb m (keepL job L) L2 tp t X ∧ Kept w w' (fun k => ¬ X k) := by
  obtain ⟨F, F2, H⟩ := H
  refine (aS_remove job H.a H.below).mono ?_
  rintro e w' ⟨he, a, b, k⟩
  obtain ⟨⟨F3, H⟩, hk⟩ := H.after a b k
  exact ⟨he, ⟨F, F3, H⟩, hk⟩
theorem lenA (H : St w0 w va vb m L L2 tp t X) : Calls Try.prog 12 #[va] w fun e w' => e = .returned (.int .i64 (tot L : Int)) ∧ w = w' := by
  obtain ⟨F, F2, H⟩ := H
  exact aS_len H.a
theorem listA (b : Int) (H : St w0 w va vb m L L2 tp t X) : Calls Try.prog 22 #[va, .int .i64 b] w fun e w' => ∃ v, e = .returned v ∧ Kd.R k33 33 w' w.heap.size (fun _ => True) v (listL L b) ∧ Below w.heap.size w w' := by
  obtain ⟨F, F2, H⟩ := H
  exact aS_list b H.a
theorem pushB (x : S33) (b : Int) (H : St w0 w va vb m L L2 tp t X) :
    Calls Try.prog 17 #[vb, refV x, .int .i64 b] w fun e w' => e = .returned (.int .i64 (pushR m L2 b)) ∧ St w0 w' va vb m L (pushL m L2 x b) tp t X ∧ Kept w w' (fun k => ¬ X k) := by
  obtain ⟨F, F2, H⟩ := H
  refine (bS_push x b H.b H.below).mono ?_
  rintro e w' ⟨he, a, b, k⟩
  obtain ⟨⟨F3, H⟩, hk⟩ := H.swap.after a b k
  exact ⟨he, ⟨F3, F2, H.swap⟩, hk⟩
theorem popB (H : St w0 w va vb m L L2 tp t X) :
    Calls Try.prog 20 #[vb] w fun e w' => e = .returned (.tuple #[refV (popR L2).1, .bool (popR L2).2.1]) ∧ St w0 w' va vb m L (popR L2).2.2 tp t X ∧ Kept w w' (fun k => ¬ X k) := by
  obtain ⟨F, F2, H⟩ := H
  refine (bS_pop H.b H.below).mono ?_
  rintro e w' ⟨he, a, b, k⟩
  obtain ⟨⟨F3, H⟩, hk⟩ := H.swap.after a b k
  exact ⟨he, ⟨F3, F2, H.swap⟩, hk⟩
theorem removeB (job : Int) (H : St w0 w va vb m L L2 tp t X) :
    Calls Try.prog 19 #[vb, .int .i64 job] w fun e w' => e = .returned (.int .i64 ((tot L2 : Int) - (tot (keepL job L2) : Int))) ∧ St w0 w' va vb m L (keepL job L2) tp t X ∧ Kept w w' (fun k => ¬ X k) := by
  obtain ⟨F, F2, H⟩ := H
  refine (bS_remove job H.b H.below).mono ?_
  rintro e w' ⟨he, a, b, k⟩
  obtain ⟨⟨F3, H⟩, hk⟩ := H.swap.after a b k
  exact ⟨he, ⟨F3, F2, H.swap⟩, hk⟩
theorem lenB (H : St w0 w va vb m L L2 tp t X) : Calls Try.prog 24 #[vb] w fun e w' => e = .returned (.int .i64 (tot L2 : Int)) ∧ w = w' := by
  obtain ⟨F, F2, H⟩ := H
  exact bS_len H.b
theorem listB (b : Int) (H : St w0 w va vb m L L2 tp t X) : Calls Try.prog 23 #[vb, .int .i64 b] w fun e w' => ∃ v, e = .returned v ∧ Kd.R k33 33 w' w.heap.size (fun _ => True) v (listL L2 b) ∧ Below w.heap.size w w' := by
  obtain ⟨F, F2, H⟩ := H
  exact bS_list b H.b

theorem list_len (L : Nat → List S33) (b : Int) (h : tot L ≤ 4096) : (listL L b).length ≤ 4096 := by
  unfold listL
  split
  · rename_i hb
    have := tot_le L b.toNat (by omega)
    omega
  · simp

/-- The two constructors side by side: both refuse, or both make an empty injector. -/
theorem news (c : Int) (ht : OnTape w0 w tp t) (hB : Below w0.heap.size w0 w) : ∃ (m : Option Int) (r : Int),
    Calls Try.prog 7 #[.int .i64 c] w fun e w1 => ∃ va, e = .returned (.tuple #[va, .int .i64 r]) ∧
      Calls Try.prog 14 #[.int .i64 c] w1 fun e w2 => ∃ vb, e = .returned (.tuple #[vb, .int .i64 r]) ∧ ((va = .pointer none ∧ vb = .pointer none) ∨ ((∃ p, va = .pointer (some ⟨p, 0, none⟩)) ∧ ∃ p, vb = .pointer (some ⟨p, 0, none⟩))) ∧ St w0 w2 va vb m (fun _ => []) (fun _ => []) tp t (fun _ => False) := by
  by_cases hc : c < 1 ∨ 4096 < c
  · refine ⟨none, 2, (new_bad c hc w).mono ?_⟩
    rintro e w1 ⟨rfl, rfl⟩
    refine ⟨_, rfl, (newb_bad c hc _).mono ?_⟩
    rintro e w2 ⟨rfl, rfl⟩
    refine ⟨_, rfl, .inl ⟨rfl, rfl⟩, fun _ => False, fun _ => False, ⟨rfl, rfl⟩, ⟨rfl, rfl⟩, ht, hB, fun k hk h1 h2 => ?_, fun h => ?_, fun h => ?_, fun _ h => h.elim⟩
    · rcases h1 with h1 | h1
      · simp at h1
      · exact h1
    · rcases h with h | h
      · simp at h
      · exact h
    · rcases h with h | h
      · simp at h
      · exact h
  · refine ⟨some c, 0, (new_ok c (by omega) (by omega) hB).mono ?_⟩
    rintro e w1 ⟨p, rfl, hd, hp, hb⟩
    have htl := ht.lt
    have hB1 := below_then hB hB.size hb
    refine ⟨_, rfl, (newb_ok c (by omega) (by omega) hB1).mono ?_⟩
    rintro e w2 ⟨q, rfl, hr, hq, hb2⟩
    have hpl := hd.lt
    have h00 : (tot (fun _ => []) : Int) ≤ c := by simp [tot]; omega
    have hs1 : SA 49 w0 w1 (.pointer (some ⟨p, 0, none⟩)) (some c) (fun _ => []) (fun k => k ≠ p ∧ w.heap.size ≤ k) := ⟨p, rfl, hd, by omega, by omega, h00⟩
    have hs2 := hs1.kept (Kept.of_below hb2 (fun _ => False)) (fun _ _ _ => id)
    have hz := hb.size
    refine ⟨_, rfl, .inr ⟨⟨_, rfl⟩, ⟨_, rfl⟩⟩, _, _, hs2, ⟨q, rfl, hr, by omega, by omega, h00⟩, (ht.below hb).below hb2, below_then hB1 hB1.size hb2, fun k hk h1 h2 => ?_, fun h1 => ?_, fun h1 => ?_, fun _ h => h.elim⟩
    · have h3 : k < w1.heap.size := by
        rcases h1 with h1 | h1
        · simp at h1 <;> omega
        · exact h1.2.elim id (fun h => by omega)
      rcases h2 with h2 | h2
      · simp at h2 <;> omega
      · have := h2.2; omega
    · rcases h1 with h1 | h1
      · simp at h1 <;> omega
      · have := h1.1.2; omega
    · rcases h1 with h1 | h1
      · simp at h1 <;> omega
      · have := h1.2; omega
end
end Go.Proofs.Ytfneiocgjoalkaa.All
