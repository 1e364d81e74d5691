/- The writer of the codec: numbers and lists, walked. -/
import Derived.Test.YtlballjigibphaaPCodecLimitsx1
import Derived.StillTailTactics
import Derived.Deep.RegionLaw
import Derived.BigRegion
namespace Go.Proofs.Ytlballjigibphaa.Wr
open Go.RowKit Go.Proofs.YtlballjigibphaaW.PrintWords Go.Proofs.YtlballjigibphaaW.PrintLast Go.Proofs.YtlballjigibphaaW.PrintMore
open Go.Proofs.Ytlballjigibphaa.PCodecLimits
set_option linter.unusedVariables false

theorem info5 : (Try.prog.info? 5).map (fun i => (i.zero, i.size, i.bytes)) = some (some (.int .u8 0), 1, 1) := by kernel_rfl

/-- The eight bytes of a number. -/
def byteAt (n : Int) (s : Nat) : Int := IntKind.u64.wrap n / 2 ^ s % 256
def be64 (n : Int) : List Int := (List.range 8).map fun j => byteAt n (56 - 8 * j)
theorem be64_length (n : Int) : (be64 n).length = 8 := by simp [be64]

theorem be64_at (n : Int) (j : Nat) (hj : j < 8) : (be64 n)[j]? = some (IntKind.u8.wrap (IntKind.u64.wrap n / 2 ^ (56 - 8 * (j : Int)).toNat)) := by
  have e : (56 - 8 * (j : Int)).toNat = 56 - 8 * j := by omega
  rw [e]
  simp only [be64, List.getElem?_map, List.getElem?_range hj, Option.map_some, byteAt]
  rfl

/-- A writer at block p: the bytes bs, and whether there were too many; F: which blocks its row may be. -/
structure Wr (w0 w : World) (p : Nat) (F : Nat → Prop) (bs : List Int) (full : Bool) : Prop where
  row : ∃ v, w.heap[p]? = some (.cells #[v, .bool full] 72 (0, 0)) ∧ Kd.R (Kd.int .u8) 5 w w0.heap.size F v bs
  pw : w0.heap.size ≤ p
  out : ¬ F p
  fresh : ∀ k, w.heap.size ≤ k → F k
  len : bs.length ≤ 262144

section
variable {w0 w w1 : World} {p : Nat} {F S : Nat → Prop} {bs : List Int} {full : Bool}
theorem Wr.kept (h : Wr w0 w p F bs full) (hk : Kept w w1 S) (hp : ¬ S p) (hS : ∀ k, F k → ¬ S k) : Wr w0 w1 p F bs full := by
  obtain ⟨v, h1, h2⟩ := h.row
  exact ⟨⟨v, blk_kept h1 hk hp, Kd.R_kept h2 hk hS⟩, h.pw, h.out, fun k hk' => h.fresh k (Nat.le_trans hk.1 hk'), h.len⟩
theorem Wr.below (h : Wr w0 w p F bs full) (hb : Below w.heap.size w w1) : Wr w0 w1 p F bs full := h.kept (Kept.of_below hb (fun _ => False)) id (fun _ _ => id)
theorem Wr.lt (h : Wr w0 w p F bs full) : p < w.heap.size := by obtain ⟨v, h1, h2⟩ := h.row; exact blk_lt h1
theorem Wr.c1 (h : Wr w0 w p F bs full) : w.cell? ⟨p, 1, none⟩ = some (.bool full) := by obtain ⟨v, h1, h2⟩ := h.row; exact (blk_cell h1 1).trans rfl
theorem Wr.c0 (h : Wr w0 w p F bs full) : ∃ A n, w.cell? ⟨p, 0, none⟩ = some (.slice A bs.length n) := by
  obtain ⟨v, h1, h2⟩ := h.row
  obtain ⟨A, n, rfl⟩ := Kd.R_slice h2
  exact ⟨A, n, (blk_cell h1 0).trans rfl⟩
end

/-- A new row is stored into the field. -/
theorem store_row {w0 w w1 : World} {p : Nat} {F : Nat → Prop} {bs : List Int} {full : Bool} {x v : Value} (pw : w0.heap.size ≤ p) (out : ¬ F p) (ho : w1.heap[p]? = some (.cells #[x, .bool full] 72 (0, 0)))
    (hr : Kd.R (Kd.int .u8) 5 w1 w0.heap.size F v bs) (hlen : bs.length ≤ 262144) (hB : Below w0.heap.size w0 w1) (hk : Kept w w1 (fun k => k = p ∨ F k)) (fresh : ∀ k, w1.heap.size ≤ k → F k) :
    Wr w0 (w1.setCell ⟨p, 0, none⟩ v) p F bs full ∧ Below w0.heap.size w0 (w1.setCell ⟨p, 0, none⟩ v) ∧ Kept w (w1.setCell ⟨p, 0, none⟩ v) (fun k => k = p ∨ F k) := by
  refine ⟨⟨⟨v, by simpa using blk_set ho 0 v, Kd.R_far hr (p := ⟨p, 0, none⟩) (fun k hk e => out (by rw [← show k = p from e]; exact hk)) _⟩, pw, out, fun k hk => fresh k (by simpa [World.setCell] using hk), hlen⟩, ?_, ?_⟩
  · exact hB.setCell (by exact pw) _
  · exact hk.setCell (.inl (.inl rfl)) _
theorem store_full {w0 w : World} {p : Nat} {F : Nat → Prop} {bs : List Int} {full : Bool} (H : Wr w0 w p F bs full) (hB : Below w0.heap.size w0 w) :
    Wr w0 (w.setCell ⟨p, 1, none⟩ (.bool true)) p F bs true ∧ Below w0.heap.size w0 (w.setCell ⟨p, 1, none⟩ (.bool true)) ∧ Kept w (w.setCell ⟨p, 1, none⟩ (.bool true)) (fun k => k = p ∨ F k) := by
  obtain ⟨v, h1, h2⟩ := H.row
  refine ⟨⟨⟨v, by simpa using blk_set h1 1 (.bool true), Kd.R_far h2 (p := ⟨p, 1, none⟩) (fun k hk e => H.out (by rw [← show k = p from e]; exact hk)) _⟩, H.pw, H.out, fun k hk => H.fresh k (by simpa [World.setCell] using hk), H.len⟩, ?_, ?_⟩
  · exact hB.setCell (by exact H.pw) _
  · exact (Kept.refl w _).setCell (.inl (.inl rfl)) _

/-- What 'numbers' leaves. -/
def numsB : List Int → List Int → List Int
  | bs, [] => bs
  | bs, n :: r => if bs.length + 8 > 262144 then bs else numsB (bs ++ be64 n) r
def numsF : List Int → Bool → List Int → Bool
  | bs, full, [] => full
  | bs, full, n :: r => if bs.length + 8 > 262144 then true else numsF (bs ++ be64 n) full r

set_option maxHeartbeats 2000000 in
set_option maxRecDepth 100000 in
/-- One round's inner loop: one byte. -/
theorem numbers_calls {w0 w : World} {p : Nat} {F : Nat → Prop} {bs : List Int} {full : Bool} {A : Option Addr} {c : Nat} (l : List Int) (h : Wr w0 w p F bs full) (hB : Below w0.heap.size w0 w)
    (hC : ∀ W, Kept w W (fun k => k = p ∨ F k) → Kd.C (Kd.int .i64) W A l.length l) (hl : l.length ≤ 1000000) :
    Calls Try.prog 29 #[.pointer (some ⟨p, 0, none⟩), .slice A l.length c] w fun e w' => e = .returned (.tuple #[]) ∧ Wr w0 w' p F (numsB bs l) (numsF bs full l) ∧ Below w0.heap.size w0 w' ∧ Kept w w' (fun k => k = p ∨ F k) := by
  have H := Aside0.mk h
  have HB := Aside0.mk hB
  have HC := Aside0.mk hC
  have HK : Aside0 (Kept w w (fun k => k = p ∨ F k)) := ⟨Kept.refl _ _⟩
  clear h hB hC
  go_enter Try.func29, Try.ntmps29
  go_wp2_with fail
  go_loopw [9] (fun v9 wr => ∃ (k : Nat) (b1 : List Int) (f1 : Bool), k ≤ l.length ∧ v9 = .int .i64 (k : Int) ∧ Aside0 (numsB bs l = numsB b1 (l.drop k) ∧ numsF bs full l = numsF b1 f1 (l.drop k)) ∧ Aside0 (Wr w0 wr p F b1 f1) ∧ Aside0 (Below w0.heap.size w0 wr) ∧ Aside0 (Kept w wr (fun k => k = p ∨ F k))) (fun i _ => l.length - (intOf i).toNat)
  case atStart => exact ⟨0, bs, full, by omega, rfl, ⟨rfl, rfl⟩, H, HB, HK⟩
  case round =>
    clear H HB HK
    obtain ⟨k, b1, f1, hk, rfl, HN, H, HB, HK⟩ := hrel
    by_cases hlt : k < l.length
    · obtain ⟨n, hn⟩ : ∃ n, l[k]? = some n := ⟨_, List.getElem?_eq_getElem hlt⟩
      obtain ⟨ad, rfl, x0⟩ := Kd.at_int (HC.out wr HK.out) (k : Int) (by omega) (by omega)
      have hrd : rd l (k : Int) = n := by simp [rd, List.getD_eq_getElem?_getD, hn]
      rw [hrd, Int.toNat_natCast] at x0
      have hdrop : l.drop k = n :: l.drop (k + 1) := by rw [List.drop_eq_getElem_cons hlt]; congr; exact Option.some.inj ((List.getElem?_eq_getElem hlt).symm.trans hn)
      have HD := Aside0.mk hdrop
      have i0 : (0 : Int) ≤ (k : Int) := by omega
      have i1 : (k : Int) < (l.length : Int) := by omega
      obtain ⟨A0, c0, hc0⟩ := H.out.c0
      have hc1 := H.out.c1
      clear hn hrd hdrop
      by_cases hbig : b1.length + 8 > 262144
      · have t1 : decide ((b1.length : Int) + 8 > 262144) = true := decide_eq_true (by omega)
        have hlb := H.out.len
        obtain ⟨v, q1, q2⟩ := H.out.row
        have f1' := blk_frozen q1 1
        clear q1 q2
        go_wp2_with fail
        refine bodyPost_ret (results_none rfl _ _ _) rfl ?_
        obtain ⟨e1, e2, e3⟩ := store_full H.out HB.out
        have hn := HN.out
        rw [HD.out] at hn
        simp only [numsB, numsF, if_pos hbig] at hn
        exact ⟨rfl, by rw [hn.1, hn.2]; exact e1, e2, HK.out.then_ e3 (fun q hq => .inl hq)⟩
      · have t1 : decide ((b1.length : Int) + 8 > 262144) = false := decide_eq_false (by omega)
        have hlb := H.out.len
        go_wp2_with fail
        go_loopw [6] (fun v6 wr => ∃ j : Nat, j ≤ 8 ∧ v6 = .int .i64 (56 - 8 * (j : Int)) ∧ Aside0 (Wr w0 wr p F (b1 ++ (be64 n).take j) f1) ∧ Aside0 (Below w0.heap.size w0 wr) ∧ Aside0 (Kept w wr (fun k => k = p ∨ F k))) (fun i _ => (intOf i + 8).toNat)
        case atStart => exact ⟨0, by omega, rfl, ⟨by simpa using H.out⟩, HB, HK⟩
        case round =>
          clear H HB HK x0 hc0 hc1
          obtain ⟨j, hj, rfl, H, HB, HK⟩ := hrel
          by_cases hj8 : j < 8
          · obtain ⟨v, q1, q2⟩ := H.out.row
            obtain ⟨A1, c1, rfl⟩ := Kd.R_slice q2
            have hp := blk_lt q1
            have hlen2 := H.out.len
            generalize hbs : b1 ++ (be64 n).take j = bs2 at *
            have d0 := (blk_cell q1 0).trans rfl
            have d0' := (Below.cell (below_alloc (Below.refl wr.heap.size wr) (.cells #[.int .u8 (IntKind.u8.wrap (IntKind.u64.wrap n / 2 ^ (56 - 8 * (j : Int)).toNat))] 5)) (p := ⟨p, 0, none⟩) hp).trans d0
            have OB := Aside0.mk q1
            have RR := Aside0.mk q2
            have HS := Aside0.mk hbs
            have hs := HB.out.size
            have NE : Aside0 (some p ≠ (Value.slice A1 bs2.length c1).ownBlock) := ⟨fun e => H.out.out (q2.1 p e.symm)⟩
            clear q1 q2 hbs
            go_wp2_with fail
            go_region_law (first | (refine Kd.R_append_step (Kd.int .u8) (W := wr.drew) w0.heap.size (by rfl) _ _ 31 5 (.int .u8 0) 1 (by rfl) Try.underlying31 info5 (by rfl) (by decide) (by decide) (.slice A1 bs2.length c1) bs2 (IntKind.u8.wrap (IntKind.u64.wrap n / 2 ^ (56 - 8 * (j : Int)).toNat)) [.int .u8 (IntKind.u8.wrap (IntKind.u64.wrap n / 2 ^ (56 - 8 * (j : Int)).toNat))] F (fun _ => False) (by rfl) (by rfl) (by rfl) (fun _ h => h.elim) (fun k hk => H.out.fresh k hk) (Kd.R_drew RR.out) (below_drew HB.out) hs (by omega) ?_; intro v1 w1 hown hb1 hg1 hat; obtain ⟨A2, n2, rfl⟩ := Kd.R_slice hown; have o1 := blk_grown (blk_drew OB.out) hg1 NE.out; have O1 := Aside0.mk o1; have q1 := (blk_cell o1 0).trans rfl; have qf := blk_frozen o1 0; clear o1))
            all_goals
              have kW : Kept wr w1 (fun k => k = p ∨ F k) := Kept.of_grown hg1 ((Kept.refl wr _).drew) (fun k hk => .inl (.inr (RR.out.1 k hk)))
              have hbl := be64_length n
              have hb2 : b1 ++ (be64 n).take (j + 1) = bs2 ++ [IntKind.u8.wrap (IntKind.u64.wrap n / 2 ^ (56 - 8 * (j : Int)).toNat)] := by
                rw [← HS.out, List.take_add_one, be64_at n j hj8, List.append_assoc]
                rfl
              have hl2 : bs2.length ≤ 262143 := by rw [← HS.out, List.length_append, List.length_take]; omega
              obtain ⟨e1, e2, e3⟩ := store_row H.out.pw H.out.out O1.out hown (by simp; omega) hb1 kW (fun k hk => H.out.fresh k (Nat.le_trans kW.1 hk))
              rw [List.length_append, List.length_singleton, ← hb2] at e1
              rw [List.length_append, List.length_singleton] at e2 e3
              have E1 := Aside0.mk e1
              have E2 := Aside0.mk e2
              have E3 := Aside0.mk (HK.out.then_ e3 (fun q hq => .inl hq))
              clear e1 e2 e3 hb1 hg1 hat hown kW hb2
              go_wp2_with fail
              go_roundw
              case rel => exact ⟨j + 1, by omega, by go_num, E1, E2, E3⟩
              case measure => simp [intOf]; omega
          · obtain rfl : j = 8 := by omega
            have hn := HN.out
            rw [HD.out] at hn
            simp only [numsB, numsF, if_neg hbig] at hn
            have hbl := be64_length n
            have hw := H.out
            rw [List.take_of_length_le (by omega)] at hw
            have HW := Aside0.mk hw
            have HN2 := Aside0.mk hn
            clear hn hw
            go_wp2_with fail
            go_roundw
            case rel => exact ⟨k + 1, _, _, by omega, by go_num, HN2, HW, HB, HK⟩
            case measure => simp [intOf]; omega
    · obtain rfl : k = l.length := by omega
      go_wp2_with fail
      go_end0
      have := HN.out
      rw [List.drop_length] at this
      exact ⟨rfl, by rw [this.1, this.2]; exact H.out, HB.out, HK.out⟩

end Go.Proofs.Ytlballjigibphaa.Wr
