/- The codec's writer: lists; Encode of a job that has outputs alone, walked. -/
import Derived.Test.YtlballjigibphaaWr
namespace Go.Proofs.Ytlballjigibphaa.Wr
open Go.RowKit Go.Proofs.YtlballjigibphaaW.PrintWords Go.Proofs.YtlballjigibphaaW.PrintLast Go.Proofs.YtlballjigibphaaW.PrintMore
open Go.Proofs.Ytlballjigibphaa.PCodecLimits
set_option linter.unusedVariables false

theorem Wr.skip {w0 w W : World} {p : Nat} {F : Nat → Prop} {bs : List Int} {full : Bool} (h : Wr w0 w p F bs full) (hb : Below w.heap.size w W) (hW : w.heap.size < W.heap.size) : Wr w0 W p (fun k => F k ∧ k ≠ w.heap.size) bs full := by
  obtain ⟨v, h1, h2⟩ := h.row
  exact ⟨⟨v, blk_below h1 hb, Kd.R_below (Kd.R_mono (Kd.R_bound h2) (fun k hk => ⟨hk.1, Nat.ne_of_lt hk.2.2.1⟩)) hb⟩, h.pw, fun hh => h.out hh.1, fun k hk => ⟨h.fresh k (by omega), by omega⟩, h.len⟩
theorem Wr.mono {w0 w : World} {p : Nat} {F F' : Nat → Prop} {bs : List Int} {full : Bool} (h : Wr w0 w p F bs full) (hF : ∀ k, F k → F' k) (ho : ¬ F' p) : Wr w0 w p F' bs full := by
  obtain ⟨v, h1, h2⟩ := h.row
  exact ⟨⟨v, h1, Kd.R_mono h2 hF⟩, h.pw, ho, fun k hk => hF k (h.fresh k hk), h.len⟩

/-- The block of a list that is written out in the text. -/
theorem ints_block {w : World} {b : Nat} (xs : List Int) (h : w.heap[b]? = some (.cells (xs.map (Value.int .i64)).toArray 3 (0, 0))) (hx : xs.length ≤ 100) : Kd.C (Kd.int .i64) w (some ⟨b, 0, none⟩) xs.length xs := by
  refine Kd.C_of_reads (enc := Value.int .i64) (d := (0 : Int)) (h1 := fun _ => rfl) ⟨rfl, by omega, fun _ => ⟨_, rfl, fun i hi => ?_⟩⟩
  rw [add_plain, blk_cell h i]
  simp [List.getD_eq_getElem?_getD, hi]

/-- numbers of some numbers that are written out in the call. -/
theorem numbers_lit {w0 w : World} {p : Nat} {F : Nat → Prop} {bs : List Int} {full : Bool} (xs : List Int) (h : Wr w0 w p F bs full) (hB : Below w0.heap.size w0 w) (hx : xs.length ≤ 100) :
    Calls Try.prog 29 #[.pointer (some ⟨p, 0, none⟩), .slice (some ⟨w.heap.size, 0, none⟩) xs.length xs.length] (w.alloc (.cells (xs.map (Value.int .i64)).toArray 3)) fun e w' => e = .returned (.tuple #[]) ∧ Wr w0 w' p F (numsB bs xs) (numsF bs full xs) ∧ Below w0.heap.size w0 w' ∧ Kept w w' (fun k => k = p ∨ F k) := by
  have hb := below_alloc (Below.refl w.heap.size w) (.cells (xs.map (Value.int .i64)).toArray 3)
  have hp := h.lt
  have hs := h.skip hb (by simp)
  have ho := blk_new w (.cells (xs.map (Value.int .i64)).toArray 3)
  refine (numbers_calls xs hs (below_then hB hB.size hb) (fun W hk => ints_block xs (blk_kept ho hk (fun hh => hh.elim (fun e => by omega) (fun e => e.2 rfl))) hx) (by omega)).mono ?_
  rintro e w' ⟨he, a, b, k⟩
  have k0 : Kept w (w.alloc (.cells (xs.map (Value.int .i64)).toArray 3)) (fun k => k = p ∨ F k) := Kept.of_below hb _
  exact ⟨he, a.mono (fun k hk => hk.1) h.out, b, k0.then_ k (fun q hq => .inl (hq.imp id (fun h => h.1)))⟩

def listB (bs l : List Int) : List Int := if l.length > 32768 then numsB bs [(l.length : Int)] else numsB (numsB bs [(l.length : Int)]) l
def listF (bs : List Int) (full : Bool) (l : List Int) : Bool := if l.length > 32768 then true else numsF (numsB bs [(l.length : Int)]) (numsF bs full [(l.length : Int)]) l

set_option maxHeartbeats 1000000 in
set_option maxRecDepth 100000 in
theorem list_calls {w0 w : World} {p : Nat} {F : Nat → Prop} {bs : List Int} {full : Bool} {A : Option Addr} {c : Nat} (l : List Int) (h : Wr w0 w p F bs full) (hB : Below w0.heap.size w0 w)
    (hC : ∀ W, Kept w W (fun k => k = p ∨ F k) → Kd.C (Kd.int .i64) W A l.length l) (hl : l.length ≤ 1000000) :
    Calls Try.prog 30 #[.pointer (some ⟨p, 0, none⟩), .slice A l.length c] w fun e w' => e = .returned (.tuple #[]) ∧ Wr w0 w' p F (listB bs l) (listF bs full l) ∧ Below w0.heap.size w0 w' ∧ Kept w w' (fun k => k = p ∨ F k) := by
  have H := Aside0.mk h
  have HB := Aside0.mk hB
  have HC := Aside0.mk hC
  clear h hB hC
  go_enter Try.func30, Try.ntmps30
  go_wp2_with fail
  refine (numbers_lit [(l.length : Int)] H.out HB.out (by simp)).mono ?_
  rintro e w1 ⟨rfl, h1, b1, k1⟩
  have H1 := Aside0.mk h1
  have B1 := Aside0.mk b1
  have K1 := Aside0.mk k1
  clear h1 b1 k1
  by_cases hbig : l.length > 32768
  · have t1 : decide ((l.length : Int) > 32768) = true := decide_eq_true (by omega)
    have hc1 := H1.out.c1
    obtain ⟨v, q1, q2⟩ := H1.out.row
    have f1' := blk_frozen q1 1
    clear q1 q2
    go_wp2_with fail
    refine bodyPost_ret (results_none rfl _ _ _) rfl ?_
    obtain ⟨e1, e2, e3⟩ := store_full H1.out B1.out
    unfold listB listF
    rw [if_pos hbig, if_pos hbig]
    exact ⟨rfl, e1, e2, K1.out.then_ e3 (fun q hq => .inl hq)⟩
  · have t1 : decide ((l.length : Int) > 32768) = false := decide_eq_false (by omega)
    go_wp2_with fail
    refine (numbers_calls l H1.out B1.out (fun W hk => HC.out W (K1.out.then_ hk (fun q hq => .inl hq))) hl).mono ?_
    rintro e w2 ⟨rfl, h2, b2, k2⟩
    have H2 := Aside0.mk h2
    have B2 := Aside0.mk b2
    have K2 := Aside0.mk (K1.out.then_ k2 (fun q hq => .inl hq))
    clear h2 b2 k2
    go_wp2_with fail
    go_end0
    unfold listB listF
    rw [if_neg hbig, if_neg hbig]
    exact ⟨rfl, H2.out, B2.out, K2.out⟩

end Go.Proofs.Ytlballjigibphaa.Wr
