/- slices.IndexFunc, slices.DeleteFunc at the task's type, over the closure of Remove, walked. -/
import Derived.Test.YtfneiocgjoalkaaIj4
import Derived.Lib.SliceRun
namespace Go.Proofs.Ytfneiocgjoalkaa.Rm
open Go.RowKit Go.Proofs.YtfneiocgjoalkaaW.PrintWords Go.Proofs.YtfneiocgjoalkaaW.PrintLast Go.Proofs.YtfneiocgjoalkaaW.PrintMore
open Go.Proofs.Ytfneiocgjoalkaa.PInjectorFollows
open Go.Proofs.Ytfneiocgjoalkaa.Ij
set_option linter.unusedVariables false
attribute [local go_sem] refV

def keep (job : Int) (l : List S33) : List S33 := l.filter fun x => x.f0 != job
theorem keep_length (job : Int) (l : List S33) : (keep job l).length ≤ l.length := List.length_filter_le _ _

set_option maxHeartbeats 1000000 in
set_option maxRecDepth 100000 in
/-- The closure: the task is of the job. -/
theorem pred_calls (x : S33) (jb : Nat) (job : Int) (w : World) (hj : w.cell? ⟨jb, 0, none⟩ = some (.int .i64 job)) :
    Calls Try.prog 28 #[refV x, .pointer (some ⟨jb, 0, none⟩)] w fun e w' => e = .returned (.bool (x.f0 == job)) ∧ Below w.heap.size w w' := by
  have hjl : jb < w.heap.size := by
    rcases Nat.lt_or_ge jb w.heap.size with h | h
    · exact h
    · simp [World.cell?, Array.getElem?_eq_none h] at hj
  have hj' := (Below.cell (below_alloc (Below.refl w.heap.size w) (.cells #[.int .i64 x.f0, .int .i64 x.f1] 33)) (p := ⟨jb, 0, none⟩) hjl).trans hj
  unfold refV
  go_enter Try.func28, Try.ntmps28
  go_wp2_with fail
  go_ret
  exact ⟨rfl, below_alloc (Below.refl _ _) _⟩

/-! ### The row in its block -/
structure Raw (w : World) (g cap : Nat) (m : List S33) : Prop where
  blk : ∃ cur, w.heap[g]? = some (.cells cur 33 (0, 0)) ∧ cur.size = cap * 2 ∧ ∀ i x, m[i]? = some x → cur[i * 2]? = some (.int .i64 x.f0) ∧ cur[i * 2 + 1]? = some (.int .i64 x.f1)
  len : m.length ≤ cap
  cap : cap ≤ maxLen

theorem Raw.kept {w w1 : World} {g cap : Nat} {m : List S33} {S : Nat → Prop} (h : Raw w g cap m) (hk : Kept w w1 S) (hg : ¬ S g) : Raw w1 g cap m := by
  obtain ⟨cur, h1, h2, h3⟩ := h.blk
  exact ⟨⟨cur, blk_kept h1 hk hg, h2, h3⟩, h.len, h.cap⟩
theorem Raw.below {w w1 : World} {g cap : Nat} {m : List S33} (h : Raw w g cap m) (hb : Below w.heap.size w w1) : Raw w1 g cap m := h.kept (Kept.of_below hb (fun _ => False)) id
theorem Raw.lt {w : World} {g cap : Nat} {m : List S33} (h : Raw w g cap m) : g < w.heap.size := by obtain ⟨cur, h1, _⟩ := h.blk; exact blk_lt h1
theorem Raw.cells {w : World} {g cap : Nat} {m : List S33} (h : Raw w g cap m) (i : Nat) (x : S33) (hx : m[i]? = some x) : w.cell? ⟨g, i * 2, none⟩ = some (.int .i64 x.f0) ∧ w.cell? ⟨g, i * 2 + 1, none⟩ = some (.int .i64 x.f1) := by
  obtain ⟨cur, h1, h2, h3⟩ := h.blk
  exact ⟨(blk_cell h1 _).trans (h3 i x hx).1, (blk_cell h1 _).trans (h3 i x hx).2⟩
theorem Raw.frozen {w : World} {g cap : Nat} {m : List S33} (h : Raw w g cap m) (i : Nat) : w.frozen? ⟨g, i, none⟩ = false := by
  obtain ⟨cur, h1, _⟩ := h.blk
  exact blk_frozen h1 _

theorem row_at {w : World} {base gv n cap : Nat} {ok : Nat → Prop} {l : List S33} (h : Kd.R k33 33 w base ok (.slice (some ⟨gv, 0, none⟩) n cap) l) (j : Nat) (x : S33) (hx : l[j]? = some x) :
    w.cell? ⟨gv, j * 2, none⟩ = some (.int .i64 x.f0) ∧ w.cell? ⟨gv, j * 2 + 1, none⟩ = some (.int .i64 x.f1) := by
  have hj := (List.getElem?_eq_some_iff.1 hx).1
  obtain ⟨ad, he, h0, h1⟩ := at_T33 (Kd.R_reads' h).2.2 (j : Int) (by omega) (by omega)
  injection he with he
  subst he
  have hr : rd_T33 l (j : Int) = x := by simp [rd_T33, List.getD_eq_getElem?_getD, hx]
  rw [hr, Int.toNat_natCast, add_plain] at h0 h1
  exact ⟨h0, h1⟩

theorem raw_of {w : World} {base : Nat} {ok : Nat → Prop} {v : Value} {m : List S33} (h : Kd.R k33 33 w base ok v m) : (v = .slice none 0 0 ∧ m = []) ∨ ∃ g cap, v = .slice (some ⟨g, 0, none⟩) m.length cap ∧ base ≤ g ∧ ok g ∧ Raw w g cap m := by
  have h' := h
  obtain ⟨hok, inner, ⟨ho1, ho2⟩, hr⟩ := h
  rcases ho2 with ⟨rfl, hn⟩ | ⟨g, cap, cur, rfl, hb, hh, hnc, hcm, hcs, ht⟩
  · exact .inl ⟨rfl, List.length_eq_zero_iff.1 hn⟩
  · refine .inr ⟨g, cap, rfl, hb, hok g rfl, ⟨cur, hh, hcs, fun i x hx => ?_⟩, hnc, hcm⟩
    obtain ⟨h0, h1⟩ := row_at h' i x hx
    rw [blk_cell hh] at h0 h1
    exact ⟨h0, h1⟩

theorem of_raw {w : World} {base : Nat} {ok : Nat → Prop} {g cap : Nat} {m : List S33} (h : Raw w g cap m) (hb : base ≤ g) (hok : ok g) : Kd.R k33 33 w base ok (.slice (some ⟨g, 0, none⟩) m.length cap) m := by
  obtain ⟨cur, h1, h2, h3⟩ := h.blk
  have hlen := h.len
  refine ⟨fun k hk => ?_, cur.toList.take (m.length * 2), ⟨?_, .inr ⟨g, cap, cur, rfl, hb, h1, h.len, h.cap, h2, rfl⟩⟩, ?_, fun j p hj => ?_⟩
  · have : g = k := by simpa [Value.ownBlock] using hk
    subst this
    exact hok
  · show (cur.toList.take (m.length * 2)).length = m.length * 2
    have hc : cur.toList.length = cur.size := rfl
    rw [List.length_take]
    omega
  · show (cur.toList.take (m.length * 2)).length = m.length * 2
    have hc : cur.toList.length = cur.size := rfl
    rw [List.length_take]
    omega
  · have hjl := (List.getElem?_eq_some_iff.1 hj).1
    obtain ⟨c0, c1⟩ := h3 j p hj
    have e : ((cur.toList.take (m.length * 2)).drop (j * 2)).take 2 = [.int .i64 p.f0, .int .i64 p.f1] := by
      apply List.ext_getElem?
      intro i
      rw [List.getElem?_take]
      rcases (by omega : i = 0 ∨ i = 1 ∨ 2 ≤ i) with rfl | rfl | hi
      · rw [if_pos (by omega), List.getElem?_drop, List.getElem?_take, if_pos (by omega)]
        simpa using c0
      · rw [if_pos (by omega), List.getElem?_drop, List.getElem?_take, if_pos (by omega)]
        simpa using c1
      · rw [if_neg (by omega)]
        symm
        rw [List.getElem?_eq_none]
        simpa using hi
    show k33.M w base _ p (((cur.toList.take (m.length * 2)).drop (j * 2)).take 2)
    rw [e]
    exact k33_mkM _ _ _ _

/-- A task is stored at place i. -/
theorem Raw.set {w : World} {g cap i : Nat} {m : List S33} (x : S33) (h : Raw w g cap m) (hi : i < m.length) : Raw ((w.setCell ⟨g, i * 2, none⟩ (.int .i64 x.f0)).setCell ⟨g, i * 2 + 1, none⟩ (.int .i64 x.f1)) g cap (m.set i x) := by
  obtain ⟨cur, h1, h2, h3⟩ := h.blk
  have hlen := h.len
  have o := blk_set (blk_set h1 (i * 2) (.int .i64 x.f0)) (i * 2 + 1) (.int .i64 x.f1)
  refine ⟨⟨_, o, by simpa using h2, fun j y hy => ?_⟩, by simpa using h.len, h.cap⟩
  by_cases e : j = i
  · subst e
    rw [List.getElem?_set_self hi] at hy
    injection hy with hy
    subst hy
    constructor
    · rw [Array.getElem?_setIfInBounds_ne (by omega), Array.getElem?_setIfInBounds_self_of_lt (by omega)]
    · rw [Array.getElem?_setIfInBounds_self_of_lt (by simp; omega)]
  · rw [List.getElem?_set_ne (Ne.symm e)] at hy
    obtain ⟨a1, a2⟩ := h3 j y hy
    constructor
    · rw [Array.getElem?_setIfInBounds_ne (by omega), Array.getElem?_setIfInBounds_ne (by omega)]; exact a1
    · rw [Array.getElem?_setIfInBounds_ne (by omega), Array.getElem?_setIfInBounds_ne (by omega)]; exact a2

theorem setCells_out {g : Nat} {e : TypeId} (vs : List Value) (o : Nat) (w : World) (cur : Array Value) (h : w.heap[g]? = some (.cells cur e (0, 0))) (hl : o + vs.length ≤ cur.size) :
    ∃ cur', (w.setCells g o vs).heap[g]? = some (.cells cur' e (0, 0)) ∧ cur'.size = cur.size ∧ ∀ i, i < o → cur'[i]? = cur[i]? := by
  obtain ⟨cur', h1, h2, h3⟩ := setCells_row vs o w cur h hl
  refine ⟨cur', h1, h2, fun i hi => ?_⟩
  rw [← Array.getElem?_toList, ← Array.getElem?_toList, h3, List.append_assoc, List.getElem?_append_left (by rw [List.length_take, Array.length_toList]; omega), List.getElem?_take, if_pos hi]

/-- What lies behind place i is written over; the first i stay. -/
theorem Raw.clear {w : World} {g cap i : Nat} {m : List S33} (h : Raw w g cap m) (hi : i ≤ m.length) (vs : List Value) (hl : i * 2 + vs.length ≤ cap * 2) : Raw (w.setCells g (i * 2) vs) g cap (m.take i) := by
  obtain ⟨cur, h1, h2, h3⟩ := h.blk
  obtain ⟨cur', q1, q2, q3⟩ := setCells_out vs (i * 2) w cur h1 (by omega)
  have hlen := h.len
  refine ⟨⟨cur', q1, by omega, fun j x hx => ?_⟩, by rw [List.length_take]; omega, h.cap⟩
  rw [List.getElem?_take] at hx
  split at hx
  · rename_i hj
    rw [q3 _ (by omega), q3 _ (by omega)]
    exact h3 j x hx
  · simp at hx

theorem run_clear (w : World) (g o n c : Nat) (cur : Array Value) (h : w.heap[g]? = some (.cells cur 33 (0, 0))) (hl : o + n * 2 ≤ cur.size) :
    ∃ vs : List Value, vs.length = n * 2 ∧ ∀ ty, Sem.run Try.prog (Builtin.clear_ #[44] ty #[.slice (some ⟨g, o, none⟩) n c]) w = .ok (.tuple #[]) (w.setCells g o vs) := by
  cases n with
  | zero =>
    refine ⟨[], rfl, fun ty => ?_⟩
    simp [Builtin.clear_, run_underlying Try.underlying44, World.setCells]
  | succ n =>
    have hz : ∀ w, Sem.run Try.prog (zeroValue 33) w = .ok (.agg #[.int .i64 0, .int .i64 0]) w := fun w => by kernel_rfl
    refine ⟨(Builtin.zeroCells (Value.agg #[.int .i64 0, .int .i64 0]).cells (n + 1)).toList, by simp [Builtin.zeroCells, Value.cells], fun ty => ?_⟩
    have hst := run_storeCells_cells (P := Try.prog) g o (Builtin.zeroCells (Value.agg #[.int .i64 0, .int .i64 0]).cells (n + 1)).toList 0 w
      (fun j hj => by rw [Nat.add_zero, blk_cell h]; simp [Builtin.zeroCells, Value.cells] at hj; rw [Array.getElem?_eq_getElem (by omega)]; rfl)
      (fun j _ => blk_frozen h _) (fun v hv => by
        simp [Builtin.zeroCells, Value.cells] at hv
        obtain ⟨k, hk, rfl⟩ := hv
        rcases Nat.mod_two_eq_zero_or_one k with e | e <;> rw [e] <;> rfl)
    simp only [Nat.add_zero] at hst
    simp [Builtin.clear_, run_underlying Try.underlying44, hz, hst]

end Go.Proofs.Ytfneiocgjoalkaa.Rm
