/- The reader of the codec, walked: take. -/
import Derived.Test.YtlballjigibphaaEn
import Derived.WalkLawsBesides
namespace Go.Proofs.Ytlballjigibphaa.Rd
open Go.RowKit Go.Proofs.YtlballjigibphaaW.PrintWords Go.Proofs.YtlballjigibphaaW.PrintLast Go.Proofs.YtlballjigibphaaW.PrintMore
open Go.Proofs.Ytlballjigibphaa.PCodecLimits
set_option linter.unusedVariables false

set_option maxHeartbeats 1000000 in
set_option maxRecDepth 100000 in
/-- take, where the bytes do: the first k, and the reader goes on behind them. -/
theorem take_ok (p k n c : Nat) (A : Option Addr) (w : World) (hk : k ≤ n) (hc : n ≤ c) (hn : n ≤ 1000000) (ho : w.heap[p]? = some (.cells #[.slice A n c] 86 (0, 0))) :
    Calls Try.prog 54 #[.pointer (some ⟨p, 0, none⟩), .int .i64 k] w fun e w' => e = .returned (.slice A k c) ∧ w' = w.setCell ⟨p, 0, none⟩ (.slice (if c = k then A else A.map (·.add k)) (n - k) (c - k)) := by
  have h0 := (blk_cell ho 0).trans rfl
  have f0 := blk_frozen ho 0
  have t1 : decide ((k : Int) > (n : Int)) = false := decide_eq_false (by omega)
  have i0 : (0 : Int) ≤ (k : Int) := by omega
  have i1 : (k : Int) ≤ (n : Int) := by omega
  have i2 : k ≤ c := by omega
  clear ho
  go_enter Try.func54, Try.ntmps54
  go_wp2_with fail
  all_goals
    go_ret
    exact ⟨rfl, rfl⟩

/-- A reader at block p, on the bytes bs, which came in by w0. -/
structure Rd (w0 w : World) (p : Nat) (bs : List Int) : Prop where
  row : ∃ A c, w.heap[p]? = some (.cells #[.slice A bs.length c] 86 (0, 0)) ∧ bs.length ≤ c ∧ Kd.C (Kd.int .u8) w0 A bs.length bs
  pw : w0.heap.size ≤ p
  below : Below w0.heap.size w0 w

theorem Rd.below' {w0 w w1 : World} {p : Nat} {bs : List Int} (h : Rd w0 w p bs) (hb : Below w.heap.size w w1) : Rd w0 w1 p bs := by
  obtain ⟨A, c, h1, h2, h3⟩ := h.row
  exact ⟨⟨A, c, blk_below h1 hb, h2, h3⟩, h.pw, below_then h.below h.below.size hb⟩
theorem Rd.lt {w0 w : World} {p : Nat} {bs : List Int} (h : Rd w0 w p bs) : p < w.heap.size := by obtain ⟨A, c, h1, _⟩ := h.row; exact blk_lt h1

/-- take over the reader's state. -/
theorem take_rd {w0 w : World} {p : Nat} {bs : List Int} (k : Nat) (h : Rd w0 w p bs) (hk : k ≤ bs.length) (hn : bs.length ≤ 1000000) :
    Calls Try.prog 54 #[.pointer (some ⟨p, 0, none⟩), .int .i64 k] w fun e w' => (∃ A c, e = .returned (.slice A (bs.take k).length c) ∧ (bs.take k).length ≤ c ∧ Kd.C (Kd.int .u8) w0 A (bs.take k).length (bs.take k)) ∧ Rd w0 w' p (bs.drop k) ∧ Kept w w' (fun q => q = p) := by
  obtain ⟨A, c, h1, h2, h3⟩ := h.row
  refine (take_ok p k bs.length c A w hk h2 hn h1).mono ?_
  rintro e w' ⟨rfl, rfl⟩
  have el : (bs.take k).length = k := by rw [List.length_take]; omega
  have ed : (bs.drop k).length = bs.length - k := by rw [List.length_drop]
  have ht := Kd.C_take (k := Kd.int .u8) h3 hk
  have hd := Kd.C_drop (k := Kd.int .u8) h3 hk h2
  have hsz : k * (Kd.int .u8).sz = k := Nat.mul_one k
  rw [hsz] at hd
  refine ⟨⟨A, c, by rw [el], by rw [el]; omega, ht⟩, ⟨⟨_, c - k, ?_, ?_, hd⟩, h.pw, h.below.setCell (p := ⟨p, 0, none⟩) h.pw _⟩, Kept.setCell (S := fun q => q = p) (p := ⟨p, 0, none⟩) (Kept.refl w (fun q => q = p)) (.inl rfl) _⟩
  · rw [ed]
    simpa using blk_set h1 0 (.slice (if c = k then A else A.map (·.add k)) (bs.length - k) (c - k))
  · rw [ed]; omega

end Go.Proofs.Ytlballjigibphaa.Rd
