/- 'ExtentSum' returns true for all lists of integers: the checked sum of the program answers as the reference does. No conditions. -/
import Derived.Test.YtfbkfefidjpohaaPExtentSumx2
import Derived.Test.YtfbkfefidjpohaaWSized

/-! The printed row names the word 'PrintWords.sized_ints' by its short name: this is where it finds it. -/
namespace Go.Proofs.Ytfbkfefidjpohaa.PrintWords
open Go.ChangeShapes Go.WideShapes
theorem sized_ints {H : Type} {enc : TypeId × Value → H} {P : Program} {W : World} {base : Nat} {spare : Nat → Bool} {held : Bool} {t e : TypeId} {k : IntKind} {a : Option Addr} {len cap : Nat} {d : DataW H} {ps : List MemPlace} {ts : List TypeId} {ds : List (DataW H)} {j : Nat}
    (hsz : (DataW.weightsEach P ts ds).all (· ≤ reachBytes) = true) (ht : ts[j]? = some t) (hd : ds[j]? = some d) (hu : P.underlying t = some (.slice e)) (he : P.underlying e = some (.int k)) (hc : P.cellsOf e = 1) {B : Nat} (hB : P.bytesOf e = B)
    (h : DataW.Trod enc P W base spare held t (.slice a len cap) d ps) : len * B ≤ 140737488351232 :=
  Go.Proofs.YtfbkfefidjpohaaW.PrintWords.sized_ints hsz ht hd hu he hc hB h
end Go.Proofs.Ytfbkfefidjpohaa.PrintWords

namespace Go.Proofs.Ytfbkfefidjpohaa.Pure
open Go.RowKit Go.Proofs.Ytfbkfefidjpohaa.PExtentSum Go.Proofs.YtfbkfefidjpohaaW.PrintWords Go.Proofs.YtfbkfefidjpohaaW.PrintLast

theorem wrap_of (n : Int) (h : -9223372036854775808 ≤ n ∧ n ≤ 9223372036854775807) : wrap64 n = n := by
  unfold wrap64
  omega

theorem mod_is (a n : Int) (hn : 0 < n) : ∃ r, tilefarmgen_Mod.f a n = some r := by
  unfold tilefarmgen_Mod.f
  rw [if_neg (by omega)]
  split
  · exact ⟨_, rfl⟩
  · exact ⟨_, rfl⟩

theorem near_is (a : Int) : ∃ l, tilefarmlaw1_near.f a = some l ∧ l.length = 4 := by
  obtain ⟨r, hr⟩ := mod_is a 100 (by omega)
  obtain ⟨s, hs⟩ := mod_is a 4294967296 (by omega)
  refine ⟨[a, r, s, -1], ?_, rfl⟩
  unfold tilefarmlaw1_near.f
  rw [hr]; simp only [Option.bind_some]
  rw [hs]; simp only [Option.bind_some]

theorem sane_at (k : Nat) (h : 10 ≤ k) : tilefarmlaw1_sane.f k = some true :=
  at_rounds (fun k => tilefarmlaw1_sane.mono k) h (by decide +kernel)

theorem loops (l : List Int) (z : Int) (hl : l.length ≤ 140737488351232) : ∀ (d k : Nat) (s i : Int), 0 ≤ i → i + d = l.length → d < k →
    ∃ r, extent_Sum.l0 k z s l l.length i = some r ∧ tilefarmref1_Sum.l0 k l z s i = some r := by
  intro d
  induction d with
  | zero =>
    intro k s i h0 hd hk
    obtain ⟨k, rfl⟩ : ∃ m, k = m + 1 := ⟨k - 1, by omega⟩
    refine ⟨(s, true), ?_, ?_⟩
    · simp only [extent_Sum.l0]; rw [if_neg (by omega)]
    · simp only [tilefarmref1_Sum.l0]; rw [if_neg (by omega)]
  | succ d ih =>
    intro k s i h0 hd hk
    obtain ⟨k, rfl⟩ : ∃ m, k = m + 1 := ⟨k - 1, by omega⟩
    have hi : i < (l.length : Int) := by omega
    have hw : wrap64 (i + 1) = i + 1 := wrap_of _ ⟨by omega, by omega⟩
    simp only [extent_Sum.l0, tilefarmref1_Sum.l0]
    rw [if_pos hi, if_pos h0, if_pos h0]
    simp only [hi, if_true]
    by_cases c : rd l i < 0
    · exact ⟨(0, false), by rw [if_pos c], by rw [if_pos c]⟩
    rw [if_neg c, if_neg c]
    by_cases e : rd l i > wrap64 (z - s)
    · exact ⟨(0, false), by rw [if_pos e], by rw [if_pos e]⟩
    rw [if_neg e, if_neg e, hw]
    exact ih k _ (i + 1) (by omega) (by omega) (by omega)

theorem sums (l : List Int) (z : Int) (hl : l.length ≤ 140737488351232) (k : Nat) (hk : l.length < k) :
    ∃ r, extent_Sum.f k l z = some r ∧ tilefarmref1_Sum.f k l z = some r := by
  unfold extent_Sum.f tilefarmref1_Sum.f
  by_cases c : z < 0
  · exact ⟨(0, false), by rw [if_pos c], by rw [if_pos c]⟩
  rw [if_neg c, if_neg c]
  exact loops l z hl l.length k 0 0 (by omega) (by omega) hk

theorem over (l m zs : List Int) (hl : l.length ≤ 2000) (hm : m.length ≤ 2000) : ∀ (d k : Nat) (i : Int), 0 ≤ i → i + d = zs.length → zs.length ≤ 4 → 3000 + d < k →
    tilefarmlaw1_ExtentSum.l1 k l m zs zs.length i = some true := by
  intro d
  induction d with
  | zero =>
    intro k i h0 hd hz hk
    obtain ⟨k, rfl⟩ : ∃ m, k = m + 1 := ⟨k - 1, by omega⟩
    simp only [tilefarmlaw1_ExtentSum.l1]
    rw [if_neg (by omega), sane_at k (by omega)]; rfl
  | succ d ih =>
    intro k i h0 hd hz hk
    obtain ⟨k, rfl⟩ : ∃ m, k = m + 1 := ⟨k - 1, by omega⟩
    have hi : i < (zs.length : Int) := by omega
    have hw : wrap64 (i + 1) = i + 1 := wrap_of _ ⟨by omega, by omega⟩
    obtain ⟨r, r1, r2⟩ := sums l (rd zs i) (by omega) k (by omega)
    obtain ⟨s, s1, s2⟩ := sums m (rd zs i) (by omega) k (by omega)
    simp only [tilefarmlaw1_ExtentSum.l1]
    simp only [hi, h0, if_true, r1, r2, s1, s2, Option.bind_some, bne_self_eq_false, hw]
    rw [if_neg (by simp)]
    exact ih k (i + 1) (by omega) (by omega) hz (by omega)

theorem fills (l : List Int) (z : Int) (hl : l.length ≤ 2000) : ∀ (d k : Nat) (m : List Int) (i : Int), m.length = l.length → 0 ≤ i → i + d = l.length → 3010 + d < k →
    tilefarmlaw1_ExtentSum.l0 k l z m i = some true := by
  intro d
  induction d with
  | zero =>
    intro k m i hm h0 hd hk
    obtain ⟨k, rfl⟩ : ∃ m, k = m + 1 := ⟨k - 1, by omega⟩
    obtain ⟨zs, h1, h2⟩ := near_is z
    simp only [tilefarmlaw1_ExtentSum.l0]
    rw [if_neg (by omega), h1]; simp only [Option.bind_some]
    exact over l m zs hl (by omega) zs.length k 0 (by omega) (by omega) (by omega) (by omega)
  | succ d ih =>
    intro k m i hm h0 hd hk
    obtain ⟨k, rfl⟩ : ∃ m, k = m + 1 := ⟨k - 1, by omega⟩
    have hi : i < (l.length : Int) := by omega
    have hw : wrap64 (i + 1) = i + 1 := wrap_of _ ⟨by omega, by omega⟩
    obtain ⟨r, hr⟩ := mod_is (rd l i) 1048576 (by omega)
    simp only [tilefarmlaw1_ExtentSum.l0]
    rw [if_pos hi, if_pos h0, hr]; simp only [Option.bind_some]
    rw [if_pos (by omega), hw]
    exact ih k _ (i + 1) (by simpa using hm) (by omega) (by omega) (by omega)

theorem ExtentSum : tilefarmlaw1_ExtentSum.Pure := by
  intro l z _ _ _ _
  refine ⟨6000, ?_⟩
  unfold tilefarmlaw1_ExtentSum.f
  by_cases c : (l.length : Int) > 2000
  · rw [if_pos c, sane_at 6000 (by omega)]; rfl
  · rw [if_neg c, if_pos (by omega), if_pos (by omega)]
    exact fills l z (by omega) l.length 6000 _ 0 (by simp) (by omega) (by omega) (by omega)

end Go.Proofs.Ytfbkfefidjpohaa.Pure
