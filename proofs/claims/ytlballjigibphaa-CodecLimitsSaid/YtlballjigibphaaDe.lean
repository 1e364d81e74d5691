/- Decode: the deferred closure, a wrong head, the empty job, too many bytes, walked. -/
import Derived.Test.YtlballjigibphaaJb
import Derived.Defers
import Derived.Recover
namespace Go.Proofs.Ytlballjigibphaa.Rd
open Go.RowKit Go.Proofs.YtlballjigibphaaW.PrintWords Go.Proofs.YtlballjigibphaaW.PrintLast Go.Proofs.YtlballjigibphaaW.PrintMore
open Go.Proofs.Ytlballjigibphaa.PCodecLimits
set_option linter.unusedVariables false

theorem catch_idle (p q : Addr) (w : World) :
    CallsD Try.prog 39 #[.pointer (some p), .pointer (some q)] .returning w fun e u' w' => e = .returned (.tuple #[]) ∧ u' = .returning ∧ w' = w := by
  refine callsD_of_wpS Try.func39 rfl fun c₀ cs hu => ?_
  apply wpS_seq
  apply wpS_region
  simp [wpOpsS, go_sem, recoverD, hu, Try.ntmps39, Exit.thenS]
  have et : (#[Value.pointer (some p), Value.pointer (some q)] ++ ((Array.replicate 9 undef).setIfInBounds 1 Value.nilIface).setIfInBounds 0 Value.nilIface) = #[.pointer (some p), .pointer (some q), .nilIface, .nilIface, undef, undef, undef, undef, undef, undef, undef] := rfl
  rw [et]
  have he : ∀ w, Sem.run Try.prog (binOp BinOp.eql 20 .nilIface .nilIface) w = .ok (.bool true) w := fun w => by kernel_rfl
  refine wpS_of_wp ?_
  go_wp2_with fail
  cases c₀
  simp_all [bodyPostS, results, Try.results39]

set_option maxHeartbeats 1000000 in
set_option maxRecDepth 100000 in
/-- The closure where 'broken' is on its way: it is caught, the results are the empty job and ErrForm. -/
theorem catch_broken (pb qb : Nat) (j0 j1 j2 j3 j4 : Value) (w : World) (older : List PanicEntry) (hp : w.heap[pb]? = some (.cells #[j0, j1, j2, j3] 28 (0, 0))) (hq : w.heap[qb]? = some (.cells #[j4] 32 (0, 0))) (hpq : pb ≠ qb) :
    CallsD Try.prog 39 #[.pointer (some ⟨pb, 0, none⟩), .pointer (some ⟨qb, 0, none⟩)] (.panicking ({ v := .iface 83 (.agg #[]), recovered := false } :: older)) w fun e u' w' => e = .returned (.tuple #[]) ∧ u' = .panicking ({ v := .iface 83 (.agg #[]), recovered := true } :: older) ∧
      w' = ((((w.setCell ⟨pb, 0, none⟩ (.slice none 0 0)).setCell ⟨pb, 1, none⟩ (.slice none 0 0)).setCell ⟨pb, 2, none⟩ (.slice none 0 0)).setCell ⟨pb, 3, none⟩ (.int .i64 0)).setCell ⟨qb, 0, none⟩ (.int .i64 4) := by
  refine callsD_of_wpS Try.func39 rfl fun c₀ cs hu => ?_
  apply wpS_seq
  apply wpS_region
  simp [wpOpsS, go_sem, recoverD, hu, Try.ntmps39, Exit.thenS]
  have et : (#[Value.pointer (some ⟨pb, 0, none⟩), Value.pointer (some ⟨qb, 0, none⟩)] ++ ((Array.replicate 9 undef).setIfInBounds 1 (Value.iface 83 (.agg #[]))).setIfInBounds 0 (Value.iface 83 (.agg #[]))) = #[.pointer (some ⟨pb, 0, none⟩), .pointer (some ⟨qb, 0, none⟩), .iface 83 (.agg #[]), .iface 83 (.agg #[]), undef, undef, undef, undef, undef, undef, undef] := rfl
  rw [et]
  have he : ∀ w, Sem.run Try.prog (binOp BinOp.eql 20 (.iface 83 (.agg #[])) .nilIface) w = .ok (.bool false) w := fun w => by kernel_rfl
  have ht : ∀ w, Sem.run Try.prog (Instr.typeAssert (Value.iface 83 (Value.agg #[])) 20 83 true) w = .ok (.tuple #[.agg #[], .bool true]) w := fun w => by kernel_rfl
  have b0 := (blk_cell hp 0).trans rfl
  have b1 := (blk_cell hp 1).trans rfl
  have b2 := (blk_cell hp 2).trans rfl
  have b3 := (blk_cell hp 3).trans rfl
  have b4 := (blk_cell hq 0).trans rfl
  have z0 := blk_frozen hp 0
  have z1 := blk_frozen hp 1
  have z2 := blk_frozen hp 2
  have z3 := blk_frozen hp 3
  have z4 := blk_frozen hq 0
  have n1 : ¬ qb = pb := Ne.symm hpq
  refine wpS_of_wp ?_
  go_wp2_with fail
  simp [bodyPostS, results, Try.results39]

def zj : Value := .agg #[.slice none 0 0, .slice none 0 0, .slice none 0 0, .int .i64 0]

set_option maxHeartbeats 1000000 in
set_option maxRecDepth 100000 in
theorem decode_long (A : Option Addr) (n c : Nat) (w : World) (hn : 262144 < n) (hn2 : n ≤ 1000000) :
    Calls Try.prog 17 #[.slice A n c] w fun e w' => e = .returned (.tuple #[zj, .int .i64 5]) ∧ Below w.heap.size w w' := by
  have t1 : decide ((n : Int) > 262144) = true := decide_eq_true (by omega)
  go_enter_defers Try.func17, Try.ntmps17
  go_wp2_with fail
  simp [bodyPostD, Leaves, results, Try.results17, go_sem]
  exact ⟨rfl, below_alloc (below_alloc (Below.refl _ _) _) _⟩

set_option maxHeartbeats 1000000 in
set_option maxRecDepth 100000 in
theorem decode_head {w : World} {A : Option Addr} {cp : Nat} (a b c : Int) (r : List Int) (hC : Kd.C (Kd.int .u8) w A (a :: b :: c :: r).length (a :: b :: c :: r)) (hcp : (a :: b :: c :: r).length ≤ cp) (hn : (a :: b :: c :: r).length ≤ 262144) (hw : a ≠ 84 ∨ (a = 84 ∧ b = 70 ∧ c ≠ 1)) :
    Calls Try.prog 17 #[.slice A (a :: b :: c :: r).length cp] w fun e w' => e = .returned (.tuple #[zj, .int .i64 4]) ∧ Below w.heap.size w w' := by
  have hmf : ∀ (fn : Fn) (first cap : Array Value) (w : World), (Instr.makeFunc fn first cap).run Try.prog w = .ok (.func fn first cap) w := fun _ _ _ _ => rfl
  have HC := Aside0.mk hC
  have HCP := Aside0.mk hcp
  clear hC hcp
  generalize hln : (a :: b :: c :: r).length = n at *
  have HL := Aside0.mk hln
  clear hln
  have t1 : decide ((n : Int) > 262144) = false := decide_eq_false (by omega)
  go_enter_defers Try.func17, Try.ntmps17
  go_wp2_with fail
  have hb1 := below_alloc (below_alloc (below_alloc (Below.refl w.heap.size w) (.cells #[.slice none 0 0, .slice none 0 0, .slice none 0 0, .int .i64 0] 28)) (.cells #[.int .i64 0] 32)) (.cells #[.slice A n cp] 86)
  have op := blk_alloc (blk_alloc (blk_new w (.cells #[.slice none 0 0, .slice none 0 0, .slice none 0 0, .int .i64 0] 28)) (.cells #[.int .i64 0] 32)) (.cells #[.slice A n cp] 86)
  have es : (w.alloc (.cells #[.slice none 0 0, .slice none 0 0, .slice none 0 0, .int .i64 0] 28)).heap.size = w.heap.size + 1 := by simp
  have es2 : ((w.alloc (.cells #[.slice none 0 0, .slice none 0 0, .slice none 0 0, .int .i64 0] 28)).alloc (.cells #[.int .i64 0] 32)).heap.size = w.heap.size + 1 + 1 := by simp
  have oq := blk_alloc (blk_new (w.alloc (.cells #[.slice none 0 0, .slice none 0 0, .slice none 0 0, .int .i64 0] 28)) (.cells #[.int .i64 0] 32)) (.cells #[.slice A n cp] 86)
  rw [es] at oq
  have or_ := blk_new ((w.alloc (.cells #[.slice none 0 0, .slice none 0 0, .slice none 0 0, .int .i64 0] 28)).alloc (.cells #[.int .i64 0] 32)) (.cells #[.slice A n cp] 86)
  rw [es2] at or_
  generalize ((w.alloc (.cells #[.slice none 0 0, .slice none 0 0, .slice none 0 0, .int .i64 0] 28)).alloc (.cells #[.int .i64 0] 32)).alloc (.cells #[.slice A n cp] 86) = w1 at *
  have hR : Rd w w1 (w.heap.size + 1 + 1) (a :: b :: c :: r) := ⟨⟨A, cp, by rw [HL.out]; exact or_, by rw [HL.out]; exact HCP.out, by rw [HL.out]; exact HC.out⟩, by omega, hb1⟩
  have hrl : r.length ≤ 900000 := by have := HL.out; simp at this; omega
  refine (job_head a b c r hR hrl hw).mono ?_
  rintro e w2 ⟨rfl, b2, k2⟩
  have op2 := blk_kept op k2 (by omega)
  have oq2 := blk_kept oq k2 (by omega)
  have B2 := Aside0.mk b2
  clear b2 k2 op oq or_ es es2 hb1 hR
  go_wp2_with fail
  refine leaves_cons (f := 39) (args := #[.pointer (some ⟨w.heap.size, 0, none⟩), .pointer (some ⟨w.heap.size + 1, 0, none⟩)]) (by simp) (by simp [go_sem]) ?_
  refine (catch_broken w.heap.size (w.heap.size + 1) _ _ _ _ _ w2 [] op2 oq2 (by omega)).mono ?_
  rintro e u' w3 ⟨rfl, rfl, rfl⟩
  have fp := blk_far (blk_set (blk_set (blk_set (blk_set op2 0 (.slice none 0 0)) 1 (.slice none 0 0)) 2 (.slice none 0 0)) 3 (.int .i64 0)) (p := ⟨w.heap.size + 1, 0, none⟩) (by show w.heap.size ≠ w.heap.size + 1; omega) (.int .i64 4)
  have fq := blk_set (blk_far (blk_far (blk_far (blk_far oq2 (p := ⟨w.heap.size, 0, none⟩) (by show w.heap.size + 1 ≠ w.heap.size; omega) (.slice none 0 0)) (p := ⟨w.heap.size, 1, none⟩) (by show w.heap.size + 1 ≠ w.heap.size; omega) (.slice none 0 0)) (p := ⟨w.heap.size, 2, none⟩) (by show w.heap.size + 1 ≠ w.heap.size; omega) (.slice none 0 0)) (p := ⟨w.heap.size, 3, none⟩) (by show w.heap.size + 1 ≠ w.heap.size; omega) (.int .i64 0)) 0 (.int .i64 4)
  have hB := ((((B2.out.setCell (p := ⟨w.heap.size, 0, none⟩) (Nat.le_refl _) (.slice none 0 0)).setCell (p := ⟨w.heap.size, 1, none⟩) (Nat.le_refl _) (.slice none 0 0)).setCell (p := ⟨w.heap.size, 2, none⟩) (Nat.le_refl _) (.slice none 0 0)).setCell (p := ⟨w.heap.size, 3, none⟩) (Nat.le_refl _) (.int .i64 0)).setCell (p := ⟨w.heap.size + 1, 0, none⟩) (by show w.heap.size ≤ w.heap.size + 1; omega) (.int .i64 4)
  generalize ((((w2.setCell ⟨w.heap.size, 0, none⟩ (.slice none 0 0)).setCell ⟨w.heap.size, 1, none⟩ (.slice none 0 0)).setCell ⟨w.heap.size, 2, none⟩ (.slice none 0 0)).setCell ⟨w.heap.size, 3, none⟩ (.int .i64 0)).setCell ⟨w.heap.size + 1, 0, none⟩ (.int .i64 4) = w4 at *
  have g0 := (blk_cell fp 0).trans rfl
  have g1 := (blk_cell fp 1).trans rfl
  have g2 := (blk_cell fp 2).trans rfl
  have g3 := (blk_cell fp 3).trans rfl
  have g4 := (blk_cell fq 0).trans rfl
  simp [Leaves, settle, results, Try.results17, go_sem, g0, g1, g2, g3, g4]
  exact ⟨rfl, hB⟩

set_option maxHeartbeats 1000000 in
set_option maxRecDepth 100000 in
theorem decode_empty {w : World} {A : Option Addr} {cp : Nat} (hC : Kd.C (Kd.int .u8) w A 35 (84 :: 70 :: 1 :: zs 32)) (hcp : 35 ≤ cp) :
    Calls Try.prog 17 #[.slice A 35 cp] w fun e w' => e = .returned (.tuple #[zj, .int .i64 0]) ∧ Below w.heap.size w w' := by
  have hmf : ∀ (fn : Fn) (first cap : Array Value) (w : World), (Instr.makeFunc fn first cap).run Try.prog w = .ok (.func fn first cap) w := fun _ _ _ _ => rfl
  have HC := Aside0.mk hC
  have HCP := Aside0.mk hcp
  clear hC hcp
  have hln : (84 :: 70 :: 1 :: zs 32).length = 35 := rfl
  have HL := Aside0.mk hln
  clear hln
  go_enter_defers Try.func17, Try.ntmps17
  go_wp2_with fail
  have hb1 := below_alloc (below_alloc (below_alloc (Below.refl w.heap.size w) (.cells #[.slice none 0 0, .slice none 0 0, .slice none 0 0, .int .i64 0] 28)) (.cells #[.int .i64 0] 32)) (.cells #[.slice A 35 cp] 86)
  have op := blk_alloc (blk_alloc (blk_new w (.cells #[.slice none 0 0, .slice none 0 0, .slice none 0 0, .int .i64 0] 28)) (.cells #[.int .i64 0] 32)) (.cells #[.slice A 35 cp] 86)
  have es : (w.alloc (.cells #[.slice none 0 0, .slice none 0 0, .slice none 0 0, .int .i64 0] 28)).heap.size = w.heap.size + 1 := by simp
  have es2 : ((w.alloc (.cells #[.slice none 0 0, .slice none 0 0, .slice none 0 0, .int .i64 0] 28)).alloc (.cells #[.int .i64 0] 32)).heap.size = w.heap.size + 1 + 1 := by simp
  have oq := blk_alloc (blk_new (w.alloc (.cells #[.slice none 0 0, .slice none 0 0, .slice none 0 0, .int .i64 0] 28)) (.cells #[.int .i64 0] 32)) (.cells #[.slice A 35 cp] 86)
  rw [es] at oq
  have or_ := blk_new ((w.alloc (.cells #[.slice none 0 0, .slice none 0 0, .slice none 0 0, .int .i64 0] 28)).alloc (.cells #[.int .i64 0] 32)) (.cells #[.slice A 35 cp] 86)
  rw [es2] at or_
  generalize ((w.alloc (.cells #[.slice none 0 0, .slice none 0 0, .slice none 0 0, .int .i64 0] 28)).alloc (.cells #[.int .i64 0] 32)).alloc (.cells #[.slice A 35 cp] 86) = w1 at *
  have hR : Rd w w1 (w.heap.size + 1 + 1) (84 :: 70 :: 1 :: zs 32) := ⟨⟨A, cp, by rw [HL.out]; exact or_, by rw [HL.out]; exact HCP.out, by rw [HL.out]; exact HC.out⟩, by omega, hb1⟩
  refine (job_empty hR).mono ?_
  rintro e w2 ⟨rfl, b2, k2⟩
  have op2 := blk_kept op k2 (by omega)
  have oq2 := blk_kept oq k2 (by omega)
  have B2 := Aside0.mk b2
  have q0 := (blk_cell op2 0).trans rfl
  have q1 := (blk_cell op2 1).trans rfl
  have q2 := (blk_cell op2 2).trans rfl
  have q3 := (blk_cell op2 3).trans rfl
  have q4 := (blk_cell oq2 0).trans rfl
  have z0 := blk_frozen op2 0
  have z1 := blk_frozen op2 1
  have z2 := blk_frozen op2 2
  have z3 := blk_frozen op2 3
  have z4 := blk_frozen oq2 0
  have n1 : ¬ w.heap.size + 1 = w.heap.size := by omega
  have n2 : ¬ w.heap.size = w.heap.size + 1 := by omega
  have OP2 := Aside0.mk op2
  have OQ2 := Aside0.mk oq2
  clear b2 k2 op oq or_ es es2 hb1 hR op2 oq2
  go_wp2_with fail
  have fp := blk_far (blk_set (blk_set (blk_set (blk_set OP2.out 0 (.slice none 0 0)) 1 (.slice none 0 0)) 2 (.slice none 0 0)) 3 (.int .i64 0)) (p := ⟨w.heap.size + 1, 0, none⟩) (by show w.heap.size ≠ w.heap.size + 1; omega) (.int .i64 0)
  have fq := blk_set (blk_far (blk_far (blk_far (blk_far OQ2.out (p := ⟨w.heap.size, 0, none⟩) (by show w.heap.size + 1 ≠ w.heap.size; omega) (.slice none 0 0)) (p := ⟨w.heap.size, 1, none⟩) (by show w.heap.size + 1 ≠ w.heap.size; omega) (.slice none 0 0)) (p := ⟨w.heap.size, 2, none⟩) (by show w.heap.size + 1 ≠ w.heap.size; omega) (.slice none 0 0)) (p := ⟨w.heap.size, 3, none⟩) (by show w.heap.size + 1 ≠ w.heap.size; omega) (.int .i64 0)) 0 (.int .i64 0)
  have hB := ((((B2.out.setCell (p := ⟨w.heap.size, 0, none⟩) (Nat.le_refl _) (.slice none 0 0)).setCell (p := ⟨w.heap.size, 1, none⟩) (Nat.le_refl _) (.slice none 0 0)).setCell (p := ⟨w.heap.size, 2, none⟩) (Nat.le_refl _) (.slice none 0 0)).setCell (p := ⟨w.heap.size, 3, none⟩) (Nat.le_refl _) (.int .i64 0)).setCell (p := ⟨w.heap.size + 1, 0, none⟩) (by show w.heap.size ≤ w.heap.size + 1; omega) (.int .i64 0)
  generalize ((((w2.setCell ⟨w.heap.size, 0, none⟩ (.slice none 0 0)).setCell ⟨w.heap.size, 1, none⟩ (.slice none 0 0)).setCell ⟨w.heap.size, 2, none⟩ (.slice none 0 0)).setCell ⟨w.heap.size, 3, none⟩ (.int .i64 0)).setCell ⟨w.heap.size + 1, 0, none⟩ (.int .i64 0) = w4 at *
  have g0 := (blk_cell fp 0).trans rfl
  have g1 := (blk_cell fp 1).trans rfl
  have g2 := (blk_cell fp 2).trans rfl
  have g3 := (blk_cell fp 3).trans rfl
  have g4 := (blk_cell fq 0).trans rfl
  refine leaves_cons (f := 39) (args := #[.pointer (some ⟨w.heap.size, 0, none⟩), .pointer (some ⟨w.heap.size + 1, 0, none⟩)]) (by simp) (by simp [go_sem]) ?_
  refine (catch_idle ⟨w.heap.size, 0, none⟩ ⟨w.heap.size + 1, 0, none⟩ _).mono ?_
  rintro e u' w5 ⟨rfl, rfl, rfl⟩
  simp [Leaves, settle, results, Try.results17, go_sem, g0, g1, g2, g3, g4]
  exact ⟨rfl, hB⟩

end Go.Proofs.Ytlballjigibphaa.Rd
