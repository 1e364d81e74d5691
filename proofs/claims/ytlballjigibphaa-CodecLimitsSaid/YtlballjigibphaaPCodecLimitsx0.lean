-- PRINTED BY print.sh 35421559b90ae4d0a3588c463048766b98c2df88dd9212a6774a882060cdf62d: not written by this session
import Derived.Test.YtlballjigibphaaProg
import Derived.Below
import Derived.Deep.Draws
import Derived.Deep.AppendLies
import Derived.Maps.AppendAt
import Derived.OwnWalk
import Derived.Laws.BytesArg
import Derived.Laws.MakeOwn
import Derived.Laws.OwnMore
import Derived.Deep.OwnRows
import Derived.Tactics
import Derived.Lib.ConvBytes
import Derived.Laws.Slices
import Derived.WalkKit
import Derived.KernelRfl
import Derived.RowKit3
import Derived.Deep.LoopGhost
import Derived.Deep.QuietTactic
import Derived.BigQuiet
import Derived.WideLaws
import Derived.Deep.DeepCutAuto
import Derived.Deep.CutBlock
import Derived.Deep.RegionHeld3
import Derived.Laws.Rows
import Derived.Lib.AppendStr
import Derived.ArgAppend
import Derived.Laws.IdiomCopy
import Derived.OrdersHeld
import Derived.Laws.BitsLemmas
import Derived.RowKit
import Derived.Test.YtlballjigibphaaWWords
import Derived.Test.YtlballjigibphaaWLast
import Derived.Test.YtlballjigibphaaWTab
import Derived.Test.YtlballjigibphaaWFour
import Derived.Test.YtlballjigibphaaWQPut
import Derived.Test.YtlballjigibphaaWApart
import Derived.Test.YtlballjigibphaaWArr
import Derived.Test.YtlballjigibphaaWZeros
import Derived.Test.YtlballjigibphaaWFoot
import Derived.Test.YtlballjigibphaaWKept
import Derived.Test.YtlballjigibphaaWShare
import Derived.Test.YtlballjigibphaaWN
import Derived.Test.YtlballjigibphaaWFootNe
import Derived.Test.YtlballjigibphaaWAt
import Derived.Test.YtlballjigibphaaWEqStruct
import Derived.Test.YtlballjigibphaaWRepsOne
import Derived.Test.YtlballjigibphaaWInv
import Derived.Test.YtlballjigibphaaWInvWords
import Derived.Test.YtlballjigibphaaWGuard
import Derived.Test.YtlballjigibphaaWNEv
import Derived.Test.YtlballjigibphaaWMore
namespace Go.Proofs.Ytlballjigibphaa.PCodecLimits
open Go.RowKit Go.Proofs.YtlballjigibphaaW.PrintWords Go.Proofs.YtlballjigibphaaW.PrintLast Go.Proofs.YtlballjigibphaaW.PrintMore
attribute [local go_sem] max2_int min2_int max_two min_two max_three min_three max_four min_four   -- for this text's walks alone
set_option linter.unusedVariables false
set_option linter.unusedSimpArgs false



def errW : Option Int → Value
  | none => .nilIface
  | some c => .iface 0 (.int .i64 c)
theorem errW_none : errW none = .nilIface := rfl
theorem errW_some (c : Int) : errW (some c) = .iface 0 (.int .i64 c) := rfl

-- the values' own types
def rd_L1 (xs : List (List Int)) (i : Int) : (List Int) := xs.getD i.toNat ([] : List Int)
theorem at_L1 {w : World} {A : Option Addr} {n : Nat} {xs : List (List Int)} (h : Kd.C (Kd.slice 3 (Kd.int .i64)) w A n xs) (i : Int) (h0 : 0 ≤ i) (h1 : i < n) : ∃ ad A0 c0, A = some ad ∧ w.cell? (ad.add i.toNat) = some (.slice A0 (rd_L1 xs i).length c0) ∧ (rd_L1 xs i).length ≤ c0 ∧ (Kd.int .i64).C w A0 (rd_L1 xs i).length (rd_L1 xs i) := by
  obtain ⟨ad, c, e, _, hK, hc0⟩ := Kd.C_get h ([] : List Int) i h0 h1
  have hc : ∀ j u, c[j]? = some u → w.cell? (ad.add (i.toNat * 1 + j)) = some u := hc0
  obtain ⟨A0, c0, rfl, l0, g0⟩ := hK
  exact ⟨ad, A0, c0, e, by have hq := hc 0 _ rfl; rwa [Nat.mul_one, Nat.add_zero] at hq, l0, g0⟩

/-! #### struct type 96 -/
structure S96 where
  f0 : Int
  f1 : (List Int)
def z96 : S96 := ⟨(0 : Int), ([] : List Int)⟩
def k96 : Kd S96 := Kd.iso (Kd.pair (Kd.int .i64) (Kd.slice 3 (Kd.int .i64))) (fun x : S96 => (x.f0, x.f1))
theorem k96_open {w : World} {x : S96} {cs : List Value} (h : k96.K w x cs) : ∃ A1 c1, cs = [.int .i64 x.f0, .slice A1 x.f1.length c1] ∧ x.f1.length ≤ c1 ∧ (Kd.int .i64).C w A1 x.f1.length x.f1 := by
  obtain ⟨_, _, rfl, rfl, ⟨A1, c1, rfl, l1, g1⟩⟩ := h
  exact ⟨A1, c1, rfl, l1, g1⟩
theorem k96_openM {w : World} {base : Nat} {ok : Nat → Prop} {x : S96} {cs : List Value} (h : k96.M w base ok x cs) : ∃ v1, cs = [.int .i64 x.f0, v1] ∧ (Kd.int .i64).R 3 w base ok v1 x.f1 := by
  obtain ⟨_, _, rfl, rfl, ⟨v1, rfl, g1⟩⟩ := h
  exact ⟨v1, rfl, g1⟩
theorem k96_mk (w : World) (x : S96) {A1 : Option Addr} {c1 : Nat} (l1 : x.f1.length ≤ c1) (g1 : (Kd.int .i64).C w A1 x.f1.length x.f1) : k96.K w x [.int .i64 x.f0, .slice A1 x.f1.length c1] := ⟨[.int .i64 x.f0], [.slice A1 x.f1.length c1], rfl, rfl, ⟨A1, c1, rfl, l1, g1⟩⟩
theorem k96_mkM (w : World) (base : Nat) (ok : Nat → Prop) (x : S96) {v1 : Value} (g1 : (Kd.int .i64).R 3 w base ok v1 x.f1) : k96.M w base ok x [.int .i64 x.f0, v1] := ⟨[.int .i64 x.f0], [v1], rfl, rfl, ⟨v1, rfl, g1⟩⟩
def rd_T96 (xs : List S96) (i : Int) : S96 := xs.getD i.toNat z96
theorem at_T96 {w : World} {A : Option Addr} {n : Nat} {xs : List S96} (h : Kd.C k96 w A n xs) (i : Int) (h0 : 0 ≤ i) (h1 : i < n) : ∃ ad A1 c1, A = some ad ∧ w.cell? (ad.add (i.toNat * 2)) = some (.int .i64 (rd_T96 xs i).f0) ∧ w.cell? ⟨(ad.add (i.toNat * 2)).block, (ad.add (i.toNat * 2)).off + 1, none⟩ = some (.slice A1 (rd_T96 xs i).f1.length c1) ∧ (rd_T96 xs i).f1.length ≤ c1 ∧ (Kd.int .i64).C w A1 (rd_T96 xs i).f1.length (rd_T96 xs i).f1 := by
  obtain ⟨ad, c, e, _, hK, hc0⟩ := Kd.C_get h z96 i h0 h1
  have hc : ∀ j u, c[j]? = some u → w.cell? (ad.add (i.toNat * 2 + j)) = some u := hc0
  obtain ⟨A1, c1, rfl, l1, g1⟩ := k96_open hK
  exact ⟨ad, A1, c1, e, hc 0 _ rfl, by rw [← add_field _ _ 1 (by omega)]; exact hc 1 _ rfl, l1, g1⟩

/-! #### struct type 66 -/
structure S66 where
  f0 : Int
  f1 : Int
def z66 : S66 := ⟨(0 : Int), (0 : Int)⟩
def k66 : Kd S66 := Kd.iso (Kd.pair (Kd.int .i64) (Kd.int .i64)) (fun x : S66 => (x.f0, x.f1))
theorem k66_open {w : World} {x : S66} {cs : List Value} (h : k66.K w x cs) : cs = [.int .i64 x.f0, .int .i64 x.f1] := by
  obtain ⟨_, _, rfl, rfl, rfl⟩ := h
  exact rfl
theorem k66_openM {w : World} {base : Nat} {ok : Nat → Prop} {x : S66} {cs : List Value} (h : k66.M w base ok x cs) : cs = [.int .i64 x.f0, .int .i64 x.f1] := by
  obtain ⟨_, _, rfl, rfl, rfl⟩ := h
  exact rfl
theorem k66_mk (w : World) (x : S66)  : k66.K w x [.int .i64 x.f0, .int .i64 x.f1] := ⟨[.int .i64 x.f0], [.int .i64 x.f1], rfl, rfl, rfl⟩
theorem k66_mkM (w : World) (base : Nat) (ok : Nat → Prop) (x : S66)  : k66.M w base ok x [.int .i64 x.f0, .int .i64 x.f1] := ⟨[.int .i64 x.f0], [.int .i64 x.f1], rfl, rfl, rfl⟩
def rd_T66 (xs : List S66) (i : Int) : S66 := xs.getD i.toNat z66
theorem at_T66 {w : World} {A : Option Addr} {n : Nat} {xs : List S66} (h : Kd.C k66 w A n xs) (i : Int) (h0 : 0 ≤ i) (h1 : i < n) : ∃ ad , A = some ad ∧ w.cell? (ad.add (i.toNat * 2)) = some (.int .i64 (rd_T66 xs i).f0) ∧ w.cell? ⟨(ad.add (i.toNat * 2)).block, (ad.add (i.toNat * 2)).off + 1, none⟩ = some (.int .i64 (rd_T66 xs i).f1) := by
  obtain ⟨ad, c, e, _, hK, hc0⟩ := Kd.C_get h z66 i h0 h1
  have hc : ∀ j u, c[j]? = some u → w.cell? (ad.add (i.toNat * 2 + j)) = some u := hc0
  obtain rfl := k66_open hK
  exact ⟨ad, e, hc 0 _ rfl, by rw [← add_field _ _ 1 (by omega)]; exact hc 1 _ rfl⟩

/-! #### struct type 49 -/
structure S49 where
  f0 : Int
  f1 : Int
  f2 : Int
  f3 : (List Int)
def z49 : S49 := ⟨(0 : Int), (0 : Int), (0 : Int), ([] : List Int)⟩
def k49 : Kd S49 := Kd.iso (Kd.pair (Kd.int .i64) (Kd.pair (Kd.int .i64) (Kd.pair (Kd.int .i64) (Kd.slice 3 (Kd.int .i64))))) (fun x : S49 => (x.f0, x.f1, x.f2, x.f3))
theorem k49_open {w : World} {x : S49} {cs : List Value} (h : k49.K w x cs) : ∃ A3 c3, cs = [.int .i64 x.f0, .int .i64 x.f1, .int .i64 x.f2, .slice A3 x.f3.length c3] ∧ x.f3.length ≤ c3 ∧ (Kd.int .i64).C w A3 x.f3.length x.f3 := by
  obtain ⟨_, _, rfl, rfl, ⟨_, _, rfl, rfl, ⟨_, _, rfl, rfl, ⟨A3, c3, rfl, l3, g3⟩⟩⟩⟩ := h
  exact ⟨A3, c3, rfl, l3, g3⟩
theorem k49_openM {w : World} {base : Nat} {ok : Nat → Prop} {x : S49} {cs : List Value} (h : k49.M w base ok x cs) : ∃ v3, cs = [.int .i64 x.f0, .int .i64 x.f1, .int .i64 x.f2, v3] ∧ (Kd.int .i64).R 3 w base ok v3 x.f3 := by
  obtain ⟨_, _, rfl, rfl, ⟨_, _, rfl, rfl, ⟨_, _, rfl, rfl, ⟨v3, rfl, g3⟩⟩⟩⟩ := h
  exact ⟨v3, rfl, g3⟩
theorem k49_mk (w : World) (x : S49) {A3 : Option Addr} {c3 : Nat} (l3 : x.f3.length ≤ c3) (g3 : (Kd.int .i64).C w A3 x.f3.length x.f3) : k49.K w x [.int .i64 x.f0, .int .i64 x.f1, .int .i64 x.f2, .slice A3 x.f3.length c3] := ⟨[.int .i64 x.f0], [.int .i64 x.f1, .int .i64 x.f2, .slice A3 x.f3.length c3], rfl, rfl, ⟨[.int .i64 x.f1], [.int .i64 x.f2, .slice A3 x.f3.length c3], rfl, rfl, ⟨[.int .i64 x.f2], [.slice A3 x.f3.length c3], rfl, rfl, ⟨A3, c3, rfl, l3, g3⟩⟩⟩⟩
theorem k49_mkM (w : World) (base : Nat) (ok : Nat → Prop) (x : S49) {v3 : Value} (g3 : (Kd.int .i64).R 3 w base ok v3 x.f3) : k49.M w base ok x [.int .i64 x.f0, .int .i64 x.f1, .int .i64 x.f2, v3] := ⟨[.int .i64 x.f0], [.int .i64 x.f1, .int .i64 x.f2, v3], rfl, rfl, ⟨[.int .i64 x.f1], [.int .i64 x.f2, v3], rfl, rfl, ⟨[.int .i64 x.f2], [v3], rfl, rfl, ⟨v3, rfl, g3⟩⟩⟩⟩
def rd_T49 (xs : List S49) (i : Int) : S49 := xs.getD i.toNat z49
theorem at_T49 {w : World} {A : Option Addr} {n : Nat} {xs : List S49} (h : Kd.C k49 w A n xs) (i : Int) (h0 : 0 ≤ i) (h1 : i < n) : ∃ ad A3 c3, A = some ad ∧ w.cell? (ad.add (i.toNat * 4)) = some (.int .i64 (rd_T49 xs i).f0) ∧ w.cell? ⟨(ad.add (i.toNat * 4)).block, (ad.add (i.toNat * 4)).off + 1, none⟩ = some (.int .i64 (rd_T49 xs i).f1) ∧ w.cell? ⟨(ad.add (i.toNat * 4)).block, (ad.add (i.toNat * 4)).off + 2, none⟩ = some (.int .i64 (rd_T49 xs i).f2) ∧ w.cell? ⟨(ad.add (i.toNat * 4)).block, (ad.add (i.toNat * 4)).off + 3, none⟩ = some (.slice A3 (rd_T49 xs i).f3.length c3) ∧ (rd_T49 xs i).f3.length ≤ c3 ∧ (Kd.int .i64).C w A3 (rd_T49 xs i).f3.length (rd_T49 xs i).f3 := by
  obtain ⟨ad, c, e, _, hK, hc0⟩ := Kd.C_get h z49 i h0 h1
  have hc : ∀ j u, c[j]? = some u → w.cell? (ad.add (i.toNat * 4 + j)) = some u := hc0
  obtain ⟨A3, c3, rfl, l3, g3⟩ := k49_open hK
  exact ⟨ad, A3, c3, e, hc 0 _ rfl, by rw [← add_field _ _ 1 (by omega)]; exact hc 1 _ rfl, by rw [← add_field _ _ 2 (by omega)]; exact hc 2 _ rfl, by rw [← add_field _ _ 3 (by omega)]; exact hc 3 _ rfl, l3, g3⟩

/-! #### struct type 57 -/
structure S57 where
  f0 : Int
  f1 : Int
def z57 : S57 := ⟨(0 : Int), (0 : Int)⟩
def k57 : Kd S57 := Kd.iso (Kd.pair (Kd.int .i64) (Kd.int .i64)) (fun x : S57 => (x.f0, x.f1))
theorem k57_open {w : World} {x : S57} {cs : List Value} (h : k57.K w x cs) : cs = [.int .i64 x.f0, .int .i64 x.f1] := by
  obtain ⟨_, _, rfl, rfl, rfl⟩ := h
  exact rfl
theorem k57_openM {w : World} {base : Nat} {ok : Nat → Prop} {x : S57} {cs : List Value} (h : k57.M w base ok x cs) : cs = [.int .i64 x.f0, .int .i64 x.f1] := by
  obtain ⟨_, _, rfl, rfl, rfl⟩ := h
  exact rfl
theorem k57_mk (w : World) (x : S57)  : k57.K w x [.int .i64 x.f0, .int .i64 x.f1] := ⟨[.int .i64 x.f0], [.int .i64 x.f1], rfl, rfl, rfl⟩
theorem k57_mkM (w : World) (base : Nat) (ok : Nat → Prop) (x : S57)  : k57.M w base ok x [.int .i64 x.f0, .int .i64 x.f1] := ⟨[.int .i64 x.f0], [.int .i64 x.f1], rfl, rfl, rfl⟩
def rd_T57 (xs : List S57) (i : Int) : S57 := xs.getD i.toNat z57
theorem at_T57 {w : World} {A : Option Addr} {n : Nat} {xs : List S57} (h : Kd.C k57 w A n xs) (i : Int) (h0 : 0 ≤ i) (h1 : i < n) : ∃ ad , A = some ad ∧ w.cell? (ad.add (i.toNat * 2)) = some (.int .i64 (rd_T57 xs i).f0) ∧ w.cell? ⟨(ad.add (i.toNat * 2)).block, (ad.add (i.toNat * 2)).off + 1, none⟩ = some (.int .i64 (rd_T57 xs i).f1) := by
  obtain ⟨ad, c, e, _, hK, hc0⟩ := Kd.C_get h z57 i h0 h1
  have hc : ∀ j u, c[j]? = some u → w.cell? (ad.add (i.toNat * 2 + j)) = some u := hc0
  obtain rfl := k57_open hK
  exact ⟨ad, e, hc 0 _ rfl, by rw [← add_field _ _ 1 (by omega)]; exact hc 1 _ rfl⟩

def rd_L7 (xs : List (List S96)) (i : Int) : (List S96) := xs.getD i.toNat ([] : List S96)
theorem at_L7 {w : World} {A : Option Addr} {n : Nat} {xs : List (List S96)} (h : Kd.C (Kd.slice 96 k96) w A n xs) (i : Int) (h0 : 0 ≤ i) (h1 : i < n) : ∃ ad A0 c0, A = some ad ∧ w.cell? (ad.add i.toNat) = some (.slice A0 (rd_L7 xs i).length c0) ∧ (rd_L7 xs i).length ≤ c0 ∧ k96.C w A0 (rd_L7 xs i).length (rd_L7 xs i) := by
  obtain ⟨ad, c, e, _, hK, hc0⟩ := Kd.C_get h ([] : List S96) i h0 h1
  have hc : ∀ j u, c[j]? = some u → w.cell? (ad.add (i.toNat * 1 + j)) = some u := hc0
  obtain ⟨A0, c0, rfl, l0, g0⟩ := hK
  exact ⟨ad, A0, c0, e, by have hq := hc 0 _ rfl; rwa [Nat.mul_one, Nat.add_zero] at hq, l0, g0⟩

def rd_L8 (xs : List (List S66)) (i : Int) : (List S66) := xs.getD i.toNat ([] : List S66)
theorem at_L8 {w : World} {A : Option Addr} {n : Nat} {xs : List (List S66)} (h : Kd.C (Kd.slice 66 k66) w A n xs) (i : Int) (h0 : 0 ≤ i) (h1 : i < n) : ∃ ad A0 c0, A = some ad ∧ w.cell? (ad.add i.toNat) = some (.slice A0 (rd_L8 xs i).length c0) ∧ (rd_L8 xs i).length ≤ c0 ∧ k66.C w A0 (rd_L8 xs i).length (rd_L8 xs i) := by
  obtain ⟨ad, c, e, _, hK, hc0⟩ := Kd.C_get h ([] : List S66) i h0 h1
  have hc : ∀ j u, c[j]? = some u → w.cell? (ad.add (i.toNat * 1 + j)) = some u := hc0
  obtain ⟨A0, c0, rfl, l0, g0⟩ := hK
  exact ⟨ad, A0, c0, e, by have hq := hc 0 _ rfl; rwa [Nat.mul_one, Nat.add_zero] at hq, l0, g0⟩

/-! #### struct type 61 -/
structure S61 where
  f0 : Int
  f1 : Int
  f2 : Int
  f3 : Bool
  f4 : S57
  f5 : Int
  f6 : Int
  f7 : (List Int)
  f8 : (List Int)
  f9 : (List Int)
  f10 : Int
  f11 : Int
  f12 : (List S96)
  f13 : (List S96)
  f14 : Int
  f15 : (List S66)
  f16 : Int
def z61 : S61 := ⟨(0 : Int), (0 : Int), (0 : Int), false, z57, (0 : Int), (0 : Int), ([] : List Int), ([] : List Int), ([] : List Int), (0 : Int), (0 : Int), ([] : List S96), ([] : List S96), (0 : Int), ([] : List S66), (0 : Int)⟩
def k61 : Kd S61 := Kd.iso (Kd.pair (Kd.int .i64) (Kd.pair (Kd.int .i64) (Kd.pair (Kd.int .i64) (Kd.pair Kd.bool (Kd.pair k57 (Kd.pair (Kd.int .i64) (Kd.pair (Kd.int .i64) (Kd.pair (Kd.slice 3 (Kd.int .i64)) (Kd.pair (Kd.slice 3 (Kd.int .i64)) (Kd.pair (Kd.slice 3 (Kd.int .i64)) (Kd.pair (Kd.int .i64) (Kd.pair (Kd.int .i64) (Kd.pair (Kd.slice 96 k96) (Kd.pair (Kd.slice 96 k96) (Kd.pair (Kd.int .i64) (Kd.pair (Kd.slice 66 k66) (Kd.int .i64))))))))))))))))) (fun x : S61 => (x.f0, x.f1, x.f2, x.f3, x.f4, x.f5, x.f6, x.f7, x.f8, x.f9, x.f10, x.f11, x.f12, x.f13, x.f14, x.f15, x.f16))
theorem k61_open {w : World} {x : S61} {cs : List Value} (h : k61.K w x cs) : ∃ A8 c8 A9 c9 A10 c10 A13 c13 A14 c14 A16 c16, cs = [.int .i64 x.f0, .int .i64 x.f1, .int .i64 x.f2, .bool x.f3, .int .i64 x.f4.f0, .int .i64 x.f4.f1, .int .i64 x.f5, .int .i64 x.f6, .slice A8 x.f7.length c8, .slice A9 x.f8.length c9, .slice A10 x.f9.length c10, .int .i64 x.f10, .int .i64 x.f11, .slice A13 x.f12.length c13, .slice A14 x.f13.length c14, .int .i64 x.f14, .slice A16 x.f15.length c16, .int .i64 x.f16] ∧ x.f7.length ≤ c8 ∧ (Kd.int .i64).C w A8 x.f7.length x.f7 ∧ x.f8.length ≤ c9 ∧ (Kd.int .i64).C w A9 x.f8.length x.f8 ∧ x.f9.length ≤ c10 ∧ (Kd.int .i64).C w A10 x.f9.length x.f9 ∧ x.f12.length ≤ c13 ∧ k96.C w A13 x.f12.length x.f12 ∧ x.f13.length ≤ c14 ∧ k96.C w A14 x.f13.length x.f13 ∧ x.f15.length ≤ c16 ∧ k66.C w A16 x.f15.length x.f15 := by
  obtain ⟨_, _, rfl, rfl, ⟨_, _, rfl, rfl, ⟨_, _, rfl, rfl, ⟨_, _, rfl, rfl, ⟨_, _, rfl, s4, ⟨_, _, rfl, rfl, ⟨_, _, rfl, rfl, ⟨_, _, rfl, ⟨A8, c8, rfl, l8, g8⟩, ⟨_, _, rfl, ⟨A9, c9, rfl, l9, g9⟩, ⟨_, _, rfl, ⟨A10, c10, rfl, l10, g10⟩, ⟨_, _, rfl, rfl, ⟨_, _, rfl, rfl, ⟨_, _, rfl, ⟨A13, c13, rfl, l13, g13⟩, ⟨_, _, rfl, ⟨A14, c14, rfl, l14, g14⟩, ⟨_, _, rfl, rfl, ⟨_, _, rfl, ⟨A16, c16, rfl, l16, g16⟩, rfl⟩⟩⟩⟩⟩⟩⟩⟩⟩⟩⟩⟩⟩⟩⟩⟩ := h
  obtain rfl := k57_open s4
  exact ⟨A8, c8, A9, c9, A10, c10, A13, c13, A14, c14, A16, c16, rfl, l8, g8, l9, g9, l10, g10, l13, g13, l14, g14, l16, g16⟩
theorem k61_openM {w : World} {base : Nat} {ok : Nat → Prop} {x : S61} {cs : List Value} (h : k61.M w base ok x cs) : ∃ v8 v9 v10 v13 v14 v16, cs = [.int .i64 x.f0, .int .i64 x.f1, .int .i64 x.f2, .bool x.f3, .int .i64 x.f4.f0, .int .i64 x.f4.f1, .int .i64 x.f5, .int .i64 x.f6, v8, v9, v10, .int .i64 x.f10, .int .i64 x.f11, v13, v14, .int .i64 x.f14, v16, .int .i64 x.f16] ∧ (Kd.int .i64).R 3 w base ok v8 x.f7 ∧ (Kd.int .i64).R 3 w base ok v9 x.f8 ∧ (Kd.int .i64).R 3 w base ok v10 x.f9 ∧ k96.R 96 w base ok v13 x.f12 ∧ k96.R 96 w base ok v14 x.f13 ∧ k66.R 66 w base ok v16 x.f15 := by
  obtain ⟨_, _, rfl, rfl, ⟨_, _, rfl, rfl, ⟨_, _, rfl, rfl, ⟨_, _, rfl, rfl, ⟨_, _, rfl, s4, ⟨_, _, rfl, rfl, ⟨_, _, rfl, rfl, ⟨_, _, rfl, ⟨v8, rfl, g8⟩, ⟨_, _, rfl, ⟨v9, rfl, g9⟩, ⟨_, _, rfl, ⟨v10, rfl, g10⟩, ⟨_, _, rfl, rfl, ⟨_, _, rfl, rfl, ⟨_, _, rfl, ⟨v13, rfl, g13⟩, ⟨_, _, rfl, ⟨v14, rfl, g14⟩, ⟨_, _, rfl, rfl, ⟨_, _, rfl, ⟨v16, rfl, g16⟩, rfl⟩⟩⟩⟩⟩⟩⟩⟩⟩⟩⟩⟩⟩⟩⟩⟩ := h
  obtain rfl := k57_openM s4
  exact ⟨v8, v9, v10, v13, v14, v16, rfl, g8, g9, g10, g13, g14, g16⟩
theorem k61_mk (w : World) (x : S61) {A8 : Option Addr} {c8 : Nat} (l8 : x.f7.length ≤ c8) (g8 : (Kd.int .i64).C w A8 x.f7.length x.f7) {A9 : Option Addr} {c9 : Nat} (l9 : x.f8.length ≤ c9) (g9 : (Kd.int .i64).C w A9 x.f8.length x.f8) {A10 : Option Addr} {c10 : Nat} (l10 : x.f9.length ≤ c10) (g10 : (Kd.int .i64).C w A10 x.f9.length x.f9) {A13 : Option Addr} {c13 : Nat} (l13 : x.f12.length ≤ c13) (g13 : k96.C w A13 x.f12.length x.f12) {A14 : Option Addr} {c14 : Nat} (l14 : x.f13.length ≤ c14) (g14 : k96.C w A14 x.f13.length x.f13) {A16 : Option Addr} {c16 : Nat} (l16 : x.f15.length ≤ c16) (g16 : k66.C w A16 x.f15.length x.f15) : k61.K w x [.int .i64 x.f0, .int .i64 x.f1, .int .i64 x.f2, .bool x.f3, .int .i64 x.f4.f0, .int .i64 x.f4.f1, .int .i64 x.f5, .int .i64 x.f6, .slice A8 x.f7.length c8, .slice A9 x.f8.length c9, .slice A10 x.f9.length c10, .int .i64 x.f10, .int .i64 x.f11, .slice A13 x.f12.length c13, .slice A14 x.f13.length c14, .int .i64 x.f14, .slice A16 x.f15.length c16, .int .i64 x.f16] := ⟨[.int .i64 x.f0], [.int .i64 x.f1, .int .i64 x.f2, .bool x.f3, .int .i64 x.f4.f0, .int .i64 x.f4.f1, .int .i64 x.f5, .int .i64 x.f6, .slice A8 x.f7.length c8, .slice A9 x.f8.length c9, .slice A10 x.f9.length c10, .int .i64 x.f10, .int .i64 x.f11, .slice A13 x.f12.length c13, .slice A14 x.f13.length c14, .int .i64 x.f14, .slice A16 x.f15.length c16, .int .i64 x.f16], rfl, rfl, ⟨[.int .i64 x.f1], [.int .i64 x.f2, .bool x.f3, .int .i64 x.f4.f0, .int .i64 x.f4.f1, .int .i64 x.f5, .int .i64 x.f6, .slice A8 x.f7.length c8, .slice A9 x.f8.length c9, .slice A10 x.f9.length c10, .int .i64 x.f10, .int .i64 x.f11, .slice A13 x.f12.length c13, .slice A14 x.f13.length c14, .int .i64 x.f14, .slice A16 x.f15.length c16, .int .i64 x.f16], rfl, rfl, ⟨[.int .i64 x.f2], [.bool x.f3, .int .i64 x.f4.f0, .int .i64 x.f4.f1, .int .i64 x.f5, .int .i64 x.f6, .slice A8 x.f7.length c8, .slice A9 x.f8.length c9, .slice A10 x.f9.length c10, .int .i64 x.f10, .int .i64 x.f11, .slice A13 x.f12.length c13, .slice A14 x.f13.length c14, .int .i64 x.f14, .slice A16 x.f15.length c16, .int .i64 x.f16], rfl, rfl, ⟨[.bool x.f3], [.int .i64 x.f4.f0, .int .i64 x.f4.f1, .int .i64 x.f5, .int .i64 x.f6, .slice A8 x.f7.length c8, .slice A9 x.f8.length c9, .slice A10 x.f9.length c10, .int .i64 x.f10, .int .i64 x.f11, .slice A13 x.f12.length c13, .slice A14 x.f13.length c14, .int .i64 x.f14, .slice A16 x.f15.length c16, .int .i64 x.f16], rfl, rfl, ⟨[.int .i64 x.f4.f0, .int .i64 x.f4.f1], [.int .i64 x.f5, .int .i64 x.f6, .slice A8 x.f7.length c8, .slice A9 x.f8.length c9, .slice A10 x.f9.length c10, .int .i64 x.f10, .int .i64 x.f11, .slice A13 x.f12.length c13, .slice A14 x.f13.length c14, .int .i64 x.f14, .slice A16 x.f15.length c16, .int .i64 x.f16], rfl, (k57_mk w x.f4 ), ⟨[.int .i64 x.f5], [.int .i64 x.f6, .slice A8 x.f7.length c8, .slice A9 x.f8.length c9, .slice A10 x.f9.length c10, .int .i64 x.f10, .int .i64 x.f11, .slice A13 x.f12.length c13, .slice A14 x.f13.length c14, .int .i64 x.f14, .slice A16 x.f15.length c16, .int .i64 x.f16], rfl, rfl, ⟨[.int .i64 x.f6], [.slice A8 x.f7.length c8, .slice A9 x.f8.length c9, .slice A10 x.f9.length c10, .int .i64 x.f10, .int .i64 x.f11, .slice A13 x.f12.length c13, .slice A14 x.f13.length c14, .int .i64 x.f14, .slice A16 x.f15.length c16, .int .i64 x.f16], rfl, rfl, ⟨[.slice A8 x.f7.length c8], [.slice A9 x.f8.length c9, .slice A10 x.f9.length c10, .int .i64 x.f10, .int .i64 x.f11, .slice A13 x.f12.length c13, .slice A14 x.f13.length c14, .int .i64 x.f14, .slice A16 x.f15.length c16, .int .i64 x.f16], rfl, ⟨A8, c8, rfl, l8, g8⟩, ⟨[.slice A9 x.f8.length c9], [.slice A10 x.f9.length c10, .int .i64 x.f10, .int .i64 x.f11, .slice A13 x.f12.length c13, .slice A14 x.f13.length c14, .int .i64 x.f14, .slice A16 x.f15.length c16, .int .i64 x.f16], rfl, ⟨A9, c9, rfl, l9, g9⟩, ⟨[.slice A10 x.f9.length c10], [.int .i64 x.f10, .int .i64 x.f11, .slice A13 x.f12.length c13, .slice A14 x.f13.length c14, .int .i64 x.f14, .slice A16 x.f15.length c16, .int .i64 x.f16], rfl, ⟨A10, c10, rfl, l10, g10⟩, ⟨[.int .i64 x.f10], [.int .i64 x.f11, .slice A13 x.f12.length c13, .slice A14 x.f13.length c14, .int .i64 x.f14, .slice A16 x.f15.length c16, .int .i64 x.f16], rfl, rfl, ⟨[.int .i64 x.f11], [.slice A13 x.f12.length c13, .slice A14 x.f13.length c14, .int .i64 x.f14, .slice A16 x.f15.length c16, .int .i64 x.f16], rfl, rfl, ⟨[.slice A13 x.f12.length c13], [.slice A14 x.f13.length c14, .int .i64 x.f14, .slice A16 x.f15.length c16, .int .i64 x.f16], rfl, ⟨A13, c13, rfl, l13, g13⟩, ⟨[.slice A14 x.f13.length c14], [.int .i64 x.f14, .slice A16 x.f15.length c16, .int .i64 x.f16], rfl, ⟨A14, c14, rfl, l14, g14⟩, ⟨[.int .i64 x.f14], [.slice A16 x.f15.length c16, .int .i64 x.f16], rfl, rfl, ⟨[.slice A16 x.f15.length c16], [.int .i64 x.f16], rfl, ⟨A16, c16, rfl, l16, g16⟩, rfl⟩⟩⟩⟩⟩⟩⟩⟩⟩⟩⟩⟩⟩⟩⟩⟩
theorem k61_mkM (w : World) (base : Nat) (ok : Nat → Prop) (x : S61) {v8 : Value} (g8 : (Kd.int .i64).R 3 w base ok v8 x.f7) {v9 : Value} (g9 : (Kd.int .i64).R 3 w base ok v9 x.f8) {v10 : Value} (g10 : (Kd.int .i64).R 3 w base ok v10 x.f9) {v13 : Value} (g13 : k96.R 96 w base ok v13 x.f12) {v14 : Value} (g14 : k96.R 96 w base ok v14 x.f13) {v16 : Value} (g16 : k66.R 66 w base ok v16 x.f15) : k61.M w base ok x [.int .i64 x.f0, .int .i64 x.f1, .int .i64 x.f2, .bool x.f3, .int .i64 x.f4.f0, .int .i64 x.f4.f1, .int .i64 x.f5, .int .i64 x.f6, v8, v9, v10, .int .i64 x.f10, .int .i64 x.f11, v13, v14, .int .i64 x.f14, v16, .int .i64 x.f16] := ⟨[.int .i64 x.f0], [.int .i64 x.f1, .int .i64 x.f2, .bool x.f3, .int .i64 x.f4.f0, .int .i64 x.f4.f1, .int .i64 x.f5, .int .i64 x.f6, v8, v9, v10, .int .i64 x.f10, .int .i64 x.f11, v13, v14, .int .i64 x.f14, v16, .int .i64 x.f16], rfl, rfl, ⟨[.int .i64 x.f1], [.int .i64 x.f2, .bool x.f3, .int .i64 x.f4.f0, .int .i64 x.f4.f1, .int .i64 x.f5, .int .i64 x.f6, v8, v9, v10, .int .i64 x.f10, .int .i64 x.f11, v13, v14, .int .i64 x.f14, v16, .int .i64 x.f16], rfl, rfl, ⟨[.int .i64 x.f2], [.bool x.f3, .int .i64 x.f4.f0, .int .i64 x.f4.f1, .int .i64 x.f5, .int .i64 x.f6, v8, v9, v10, .int .i64 x.f10, .int .i64 x.f11, v13, v14, .int .i64 x.f14, v16, .int .i64 x.f16], rfl, rfl, ⟨[.bool x.f3], [.int .i64 x.f4.f0, .int .i64 x.f4.f1, .int .i64 x.f5, .int .i64 x.f6, v8, v9, v10, .int .i64 x.f10, .int .i64 x.f11, v13, v14, .int .i64 x.f14, v16, .int .i64 x.f16], rfl, rfl, ⟨[.int .i64 x.f4.f0, .int .i64 x.f4.f1], [.int .i64 x.f5, .int .i64 x.f6, v8, v9, v10, .int .i64 x.f10, .int .i64 x.f11, v13, v14, .int .i64 x.f14, v16, .int .i64 x.f16], rfl, (k57_mkM w base ok x.f4 ), ⟨[.int .i64 x.f5], [.int .i64 x.f6, v8, v9, v10, .int .i64 x.f10, .int .i64 x.f11, v13, v14, .int .i64 x.f14, v16, .int .i64 x.f16], rfl, rfl, ⟨[.int .i64 x.f6], [v8, v9, v10, .int .i64 x.f10, .int .i64 x.f11, v13, v14, .int .i64 x.f14, v16, .int .i64 x.f16], rfl, rfl, ⟨[v8], [v9, v10, .int .i64 x.f10, .int .i64 x.f11, v13, v14, .int .i64 x.f14, v16, .int .i64 x.f16], rfl, ⟨v8, rfl, g8⟩, ⟨[v9], [v10, .int .i64 x.f10, .int .i64 x.f11, v13, v14, .int .i64 x.f14, v16, .int .i64 x.f16], rfl, ⟨v9, rfl, g9⟩, ⟨[v10], [.int .i64 x.f10, .int .i64 x.f11, v13, v14, .int .i64 x.f14, v16, .int .i64 x.f16], rfl, ⟨v10, rfl, g10⟩, ⟨[.int .i64 x.f10], [.int .i64 x.f11, v13, v14, .int .i64 x.f14, v16, .int .i64 x.f16], rfl, rfl, ⟨[.int .i64 x.f11], [v13, v14, .int .i64 x.f14, v16, .int .i64 x.f16], rfl, rfl, ⟨[v13], [v14, .int .i64 x.f14, v16, .int .i64 x.f16], rfl, ⟨v13, rfl, g13⟩, ⟨[v14], [.int .i64 x.f14, v16, .int .i64 x.f16], rfl, ⟨v14, rfl, g14⟩, ⟨[.int .i64 x.f14], [v16, .int .i64 x.f16], rfl, rfl, ⟨[v16], [.int .i64 x.f16], rfl, ⟨v16, rfl, g16⟩, rfl⟩⟩⟩⟩⟩⟩⟩⟩⟩⟩⟩⟩⟩⟩⟩⟩
def rd_T61 (xs : List S61) (i : Int) : S61 := xs.getD i.toNat z61
theorem at_T61 {w : World} {A : Option Addr} {n : Nat} {xs : List S61} (h : Kd.C k61 w A n xs) (i : Int) (h0 : 0 ≤ i) (h1 : i < n) : ∃ ad A8 c8 A9 c9 A10 c10 A13 c13 A14 c14 A16 c16, A = some ad ∧ w.cell? (ad.add (i.toNat * 18)) = some (.int .i64 (rd_T61 xs i).f0) ∧ w.cell? ⟨(ad.add (i.toNat * 18)).block, (ad.add (i.toNat * 18)).off + 1, none⟩ = some (.int .i64 (rd_T61 xs i).f1) ∧ w.cell? ⟨(ad.add (i.toNat * 18)).block, (ad.add (i.toNat * 18)).off + 2, none⟩ = some (.int .i64 (rd_T61 xs i).f2) ∧ w.cell? ⟨(ad.add (i.toNat * 18)).block, (ad.add (i.toNat * 18)).off + 3, none⟩ = some (.bool (rd_T61 xs i).f3) ∧ w.cell? ⟨(ad.add (i.toNat * 18)).block, (ad.add (i.toNat * 18)).off + 4, none⟩ = some (.int .i64 (rd_T61 xs i).f4.f0) ∧ w.cell? ⟨(ad.add (i.toNat * 18)).block, (ad.add (i.toNat * 18)).off + 5, none⟩ = some (.int .i64 (rd_T61 xs i).f4.f1) ∧ w.cell? ⟨(ad.add (i.toNat * 18)).block, (ad.add (i.toNat * 18)).off + 6, none⟩ = some (.int .i64 (rd_T61 xs i).f5) ∧ w.cell? ⟨(ad.add (i.toNat * 18)).block, (ad.add (i.toNat * 18)).off + 7, none⟩ = some (.int .i64 (rd_T61 xs i).f6) ∧ w.cell? ⟨(ad.add (i.toNat * 18)).block, (ad.add (i.toNat * 18)).off + 8, none⟩ = some (.slice A8 (rd_T61 xs i).f7.length c8) ∧ w.cell? ⟨(ad.add (i.toNat * 18)).block, (ad.add (i.toNat * 18)).off + 9, none⟩ = some (.slice A9 (rd_T61 xs i).f8.length c9) ∧ w.cell? ⟨(ad.add (i.toNat * 18)).block, (ad.add (i.toNat * 18)).off + 10, none⟩ = some (.slice A10 (rd_T61 xs i).f9.length c10) ∧ w.cell? ⟨(ad.add (i.toNat * 18)).block, (ad.add (i.toNat * 18)).off + 11, none⟩ = some (.int .i64 (rd_T61 xs i).f10) ∧ w.cell? ⟨(ad.add (i.toNat * 18)).block, (ad.add (i.toNat * 18)).off + 12, none⟩ = some (.int .i64 (rd_T61 xs i).f11) ∧ w.cell? ⟨(ad.add (i.toNat * 18)).block, (ad.add (i.toNat * 18)).off + 13, none⟩ = some (.slice A13 (rd_T61 xs i).f12.length c13) ∧ w.cell? ⟨(ad.add (i.toNat * 18)).block, (ad.add (i.toNat * 18)).off + 14, none⟩ = some (.slice A14 (rd_T61 xs i).f13.length c14) ∧ w.cell? ⟨(ad.add (i.toNat * 18)).block, (ad.add (i.toNat * 18)).off + 15, none⟩ = some (.int .i64 (rd_T61 xs i).f14) ∧ w.cell? ⟨(ad.add (i.toNat * 18)).block, (ad.add (i.toNat * 18)).off + 16, none⟩ = some (.slice A16 (rd_T61 xs i).f15.length c16) ∧ w.cell? ⟨(ad.add (i.toNat * 18)).block, (ad.add (i.toNat * 18)).off + 17, none⟩ = some (.int .i64 (rd_T61 xs i).f16) ∧ (rd_T61 xs i).f7.length ≤ c8 ∧ (Kd.int .i64).C w A8 (rd_T61 xs i).f7.length (rd_T61 xs i).f7 ∧ (rd_T61 xs i).f8.length ≤ c9 ∧ (Kd.int .i64).C w A9 (rd_T61 xs i).f8.length (rd_T61 xs i).f8 ∧ (rd_T61 xs i).f9.length ≤ c10 ∧ (Kd.int .i64).C w A10 (rd_T61 xs i).f9.length (rd_T61 xs i).f9 ∧ (rd_T61 xs i).f12.length ≤ c13 ∧ k96.C w A13 (rd_T61 xs i).f12.length (rd_T61 xs i).f12 ∧ (rd_T61 xs i).f13.length ≤ c14 ∧ k96.C w A14 (rd_T61 xs i).f13.length (rd_T61 xs i).f13 ∧ (rd_T61 xs i).f15.length ≤ c16 ∧ k66.C w A16 (rd_T61 xs i).f15.length (rd_T61 xs i).f15 := by
  obtain ⟨ad, c, e, _, hK, hc0⟩ := Kd.C_get h z61 i h0 h1
  have hc : ∀ j u, c[j]? = some u → w.cell? (ad.add (i.toNat * 18 + j)) = some u := hc0
  obtain ⟨A8, c8, A9, c9, A10, c10, A13, c13, A14, c14, A16, c16, rfl, l8, g8, l9, g9, l10, g10, l13, g13, l14, g14, l16, g16⟩ := k61_open hK
  exact ⟨ad, A8, c8, A9, c9, A10, c10, A13, c13, A14, c14, A16, c16, e, hc 0 _ rfl, by rw [← add_field _ _ 1 (by omega)]; exact hc 1 _ rfl, by rw [← add_field _ _ 2 (by omega)]; exact hc 2 _ rfl, by rw [← add_field _ _ 3 (by omega)]; exact hc 3 _ rfl, by rw [← add_field _ _ 4 (by omega)]; exact hc 4 _ rfl, by rw [← add_field _ _ 5 (by omega)]; exact hc 5 _ rfl, by rw [← add_field _ _ 6 (by omega)]; exact hc 6 _ rfl, by rw [← add_field _ _ 7 (by omega)]; exact hc 7 _ rfl, by rw [← add_field _ _ 8 (by omega)]; exact hc 8 _ rfl, by rw [← add_field _ _ 9 (by omega)]; exact hc 9 _ rfl, by rw [← add_field _ _ 10 (by omega)]; exact hc 10 _ rfl, by rw [← add_field _ _ 11 (by omega)]; exact hc 11 _ rfl, by rw [← add_field _ _ 12 (by omega)]; exact hc 12 _ rfl, by rw [← add_field _ _ 13 (by omega)]; exact hc 13 _ rfl, by rw [← add_field _ _ 14 (by omega)]; exact hc 14 _ rfl, by rw [← add_field _ _ 15 (by omega)]; exact hc 15 _ rfl, by rw [← add_field _ _ 16 (by omega)]; exact hc 16 _ rfl, by rw [← add_field _ _ 17 (by omega)]; exact hc 17 _ rfl, l8, g8, l9, g9, l10, g10, l13, g13, l14, g14, l16, g16⟩

end Go.Proofs.Ytlballjigibphaa.PCodecLimits
