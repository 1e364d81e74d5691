-- PRINTED BY print.sh 35421559b90ae4d0a3588c463048766b98c2df88dd9212a6774a882060cdf62d: not written by this session
import Derived.Test.YtfbkfefidjpohaaPExtentExactx0
import Derived.Test.YtfbkfefidjpohaaPExtentExactx1
namespace Go.Proofs.Ytfbkfefidjpohaa.PExtentExact
open Go.RowKit Go.Proofs.YtfbkfefidjpohaaW.PrintWords Go.Proofs.YtfbkfefidjpohaaW.PrintLast Go.Proofs.YtfbkfefidjpohaaW.PrintMore
attribute [local go_sem] max2_int min2_int max_two min_two max_three min_three max_four min_four   -- for this text's walks alone
set_option linter.unusedVariables false
set_option linter.unusedSimpArgs false

/-! ### tilefarmlaw1_ExtentExact: function 6 -/
def tilefarmlaw1_ExtentExact.j0 : Nat → Int → Int → Bool → Option (Bool)
  | 0, _, _, _ => none
  | k + 1, x10, x12, x91 => if x91 = true then (some false) else ((extent_Sum.f k (([x12, x10] : List Int)) 4611686018427387904).bind fun bt128 => (if bt128.2 = true then (if (wrap64 (bt128.1 - x10)) = x12 then ((tilefarmlaw1_sane.f k).bind fun t130 => (some t130)) else (some false)) else ((tilefarmlaw1_sane.f k).bind fun t131 => (some t131))))
def tilefarmlaw1_ExtentExact.f (k : Nat) (a0 : Int) (a1 : Int) (a2 : Int) (a3 : Int) : Option (Bool) := (tilefarmgen_Mod.f a0 1099511627776).bind fun t115 => ((tilefarmgen_Mod.f a1 1073741824).bind fun t116 => ((tilefarmgen_Mod.f a2 4611686018427387904).bind fun t117 => ((extent_Mul.f t115 t116 t117).bind fun bt118 => ((extent_Mul.f t116 t115 t117).bind fun bt120 => ((tilefarmgen_Mod.f a3 2305843009213693952).bind fun t122 => ((extent_Mul.f t115 t116 (wrap64 (t117 + t122))).bind fun bt123 => (if bt118.1 = bt120.1 then (if (bt118.2 != bt120.2) = true then (tilefarmlaw1_ExtentExact.j0 k t116 bt118.1 true) else (if bt118.2 = true then (if bt123.2 = true then (if bt123.1 = bt118.1 then (if bt118.1 > t117 then (tilefarmlaw1_ExtentExact.j0 k t116 bt118.1 true) else (if t116 > 0 then (if t116 = 0 then (none) else (if (wrap64 (Int.tdiv bt118.1 t116)) = t115 then (tilefarmlaw1_ExtentExact.j0 k t116 bt118.1 ((Int.tmod bt118.1 t116) != 0)) else (tilefarmlaw1_ExtentExact.j0 k t116 bt118.1 true))) else (tilefarmlaw1_ExtentExact.j0 k t116 bt118.1 false))) else (tilefarmlaw1_ExtentExact.j0 k t116 bt118.1 true)) else (tilefarmlaw1_ExtentExact.j0 k t116 bt118.1 true)) else (tilefarmlaw1_ExtentExact.j0 k t116 bt118.1 false))) else (tilefarmlaw1_ExtentExact.j0 k t116 bt118.1 true))))))))
theorem tilefarmlaw1_ExtentExact.mono_l : ∀ k, (∀ y0 y1 y2, LeO (tilefarmlaw1_ExtentExact.j0 k y0 y1 y2) (tilefarmlaw1_ExtentExact.j0 (k + 1) y0 y1 y2))
  | 0 => fun _ _ _ r h => by simp [tilefarmlaw1_ExtentExact.j0] at h
  | k + 1 => by
    have ih0 := tilefarmlaw1_ExtentExact.mono_l k
    · intro y0 y1 y2
      unfold tilefarmlaw1_ExtentExact.j0
      repeat' first
      | (with_reducible exact ih0 _ _ _)
      | (with_reducible exact extent_Sum.mono _ _ _)
      | (with_reducible exact tilefarmlaw1_sane.mono _)
      | (with_reducible exact LeO.refl _)
      | (with_reducible exact LeO.none _)
      | (with_reducible refine LeO.ite ?_ ?_)
      | (with_reducible refine LeO.bind ?_ (fun _ => ?_))
      | exact ih0 _ _ _
      | exact extent_Sum.mono _ _ _
      | exact tilefarmlaw1_sane.mono _
      | exact LeO.none _
      | refine LeO.ite ?_ ?_
      | refine LeO.bind ?_ (fun _ => ?_)
theorem tilefarmlaw1_ExtentExact.mono : ∀ a0 a1 a2 a3 k, LeO (tilefarmlaw1_ExtentExact.f k a0 a1 a2 a3) (tilefarmlaw1_ExtentExact.f (k + 1) a0 a1 a2 a3) := by
  intro a0 a1 a2 a3 k
  have ih0 := tilefarmlaw1_ExtentExact.mono_l k
  unfold tilefarmlaw1_ExtentExact.f
  repeat' first
      | (with_reducible exact ih0 _ _ _)
      | (with_reducible exact extent_Sum.mono _ _ _)
      | (with_reducible exact tilefarmlaw1_sane.mono _)
      | (with_reducible exact LeO.refl _)
      | (with_reducible exact LeO.none _)
      | (with_reducible refine LeO.ite ?_ ?_)
      | (with_reducible refine LeO.bind ?_ (fun _ => ?_))
      | exact ih0 _ _ _
      | exact extent_Sum.mono _ _ _
      | exact tilefarmlaw1_sane.mono _
      | exact LeO.none _
      | refine LeO.ite ?_ ?_
      | refine LeO.bind ?_ (fun _ => ?_)
set_option maxHeartbeats 8000000 in
set_option maxRecDepth 100000 in
theorem tilefarmlaw1_ExtentExact.calls (k : Nat) (a0 : Int) (a1 : Int) (a2 : Int) (a3 : Int) (r : Bool) (w : World) (h : tilefarmlaw1_ExtentExact.f k a0 a1 a2 a3 = some r) :
    Calls Try.prog 6 #[.int .i64 a0, .int .i64 a1, .int .i64 a2, .int .i64 a3] w fun e w' => e = .returned (.bool r) ∧ Below w.heap.size w w' := by
  have HB := Aside0.mk (Below.refl w.heap.size w)
  have H : ((tilefarmgen_Mod.f a0 1099511627776).bind fun t115 => ((tilefarmgen_Mod.f a1 1073741824).bind fun t116 => ((tilefarmgen_Mod.f a2 4611686018427387904).bind fun t117 => ((extent_Mul.f t115 t116 t117).bind fun bt118 => ((extent_Mul.f t116 t115 t117).bind fun bt120 => ((tilefarmgen_Mod.f a3 2305843009213693952).bind fun t122 => ((extent_Mul.f t115 t116 (wrap64 (t117 + t122))).bind fun bt123 => (if bt118.1 = bt120.1 then (if (bt118.2 != bt120.2) = true then (tilefarmlaw1_ExtentExact.j0 k t116 bt118.1 true) else (if bt118.2 = true then (if bt123.2 = true then (if bt123.1 = bt118.1 then (if bt118.1 > t117 then (tilefarmlaw1_ExtentExact.j0 k t116 bt118.1 true) else (if t116 > 0 then (if t116 = 0 then (none) else (if (wrap64 (Int.tdiv bt118.1 t116)) = t115 then (tilefarmlaw1_ExtentExact.j0 k t116 bt118.1 ((Int.tmod bt118.1 t116) != 0)) else (tilefarmlaw1_ExtentExact.j0 k t116 bt118.1 true))) else (tilefarmlaw1_ExtentExact.j0 k t116 bt118.1 false))) else (tilefarmlaw1_ExtentExact.j0 k t116 bt118.1 true)) else (tilefarmlaw1_ExtentExact.j0 k t116 bt118.1 true)) else (tilefarmlaw1_ExtentExact.j0 k t116 bt118.1 false))) else (tilefarmlaw1_ExtentExact.j0 k t116 bt118.1 true))))))))) = some r := h
  clear h
  replace H := Option.bind_eq_some_iff.mp H
  obtain ⟨t115, A50, H⟩ := H
  replace H : ((tilefarmgen_Mod.f a1 1073741824).bind fun t116 => ((tilefarmgen_Mod.f a2 4611686018427387904).bind fun t117 => ((extent_Mul.f t115 t116 t117).bind fun bt118 => ((extent_Mul.f t116 t115 t117).bind fun bt120 => ((tilefarmgen_Mod.f a3 2305843009213693952).bind fun t122 => ((extent_Mul.f t115 t116 (wrap64 (t117 + t122))).bind fun bt123 => (if bt118.1 = bt120.1 then (if (bt118.2 != bt120.2) = true then (tilefarmlaw1_ExtentExact.j0 k t116 bt118.1 true) else (if bt118.2 = true then (if bt123.2 = true then (if bt123.1 = bt118.1 then (if bt118.1 > t117 then (tilefarmlaw1_ExtentExact.j0 k t116 bt118.1 true) else (if t116 > 0 then (if t116 = 0 then (none) else (if (wrap64 (Int.tdiv bt118.1 t116)) = t115 then (tilefarmlaw1_ExtentExact.j0 k t116 bt118.1 ((Int.tmod bt118.1 t116) != 0)) else (tilefarmlaw1_ExtentExact.j0 k t116 bt118.1 true))) else (tilefarmlaw1_ExtentExact.j0 k t116 bt118.1 false))) else (tilefarmlaw1_ExtentExact.j0 k t116 bt118.1 true)) else (tilefarmlaw1_ExtentExact.j0 k t116 bt118.1 true)) else (tilefarmlaw1_ExtentExact.j0 k t116 bt118.1 false))) else (tilefarmlaw1_ExtentExact.j0 k t116 bt118.1 true)))))))) = some r := H
  have A5 := Aside0.mk A50
  clear A50
  replace H := Option.bind_eq_some_iff.mp H
  obtain ⟨t116, A60, H⟩ := H
  replace H : ((tilefarmgen_Mod.f a2 4611686018427387904).bind fun t117 => ((extent_Mul.f t115 t116 t117).bind fun bt118 => ((extent_Mul.f t116 t115 t117).bind fun bt120 => ((tilefarmgen_Mod.f a3 2305843009213693952).bind fun t122 => ((extent_Mul.f t115 t116 (wrap64 (t117 + t122))).bind fun bt123 => (if bt118.1 = bt120.1 then (if (bt118.2 != bt120.2) = true then (tilefarmlaw1_ExtentExact.j0 k t116 bt118.1 true) else (if bt118.2 = true then (if bt123.2 = true then (if bt123.1 = bt118.1 then (if bt118.1 > t117 then (tilefarmlaw1_ExtentExact.j0 k t116 bt118.1 true) else (if t116 > 0 then (if t116 = 0 then (none) else (if (wrap64 (Int.tdiv bt118.1 t116)) = t115 then (tilefarmlaw1_ExtentExact.j0 k t116 bt118.1 ((Int.tmod bt118.1 t116) != 0)) else (tilefarmlaw1_ExtentExact.j0 k t116 bt118.1 true))) else (tilefarmlaw1_ExtentExact.j0 k t116 bt118.1 false))) else (tilefarmlaw1_ExtentExact.j0 k t116 bt118.1 true)) else (tilefarmlaw1_ExtentExact.j0 k t116 bt118.1 true)) else (tilefarmlaw1_ExtentExact.j0 k t116 bt118.1 false))) else (tilefarmlaw1_ExtentExact.j0 k t116 bt118.1 true))))))) = some r := H
  have A6 := Aside0.mk A60
  clear A60
  replace H := Option.bind_eq_some_iff.mp H
  obtain ⟨t117, A70, H⟩ := H
  replace H : ((extent_Mul.f t115 t116 t117).bind fun bt118 => ((extent_Mul.f t116 t115 t117).bind fun bt120 => ((tilefarmgen_Mod.f a3 2305843009213693952).bind fun t122 => ((extent_Mul.f t115 t116 (wrap64 (t117 + t122))).bind fun bt123 => (if bt118.1 = bt120.1 then (if (bt118.2 != bt120.2) = true then (tilefarmlaw1_ExtentExact.j0 k t116 bt118.1 true) else (if bt118.2 = true then (if bt123.2 = true then (if bt123.1 = bt118.1 then (if bt118.1 > t117 then (tilefarmlaw1_ExtentExact.j0 k t116 bt118.1 true) else (if t116 > 0 then (if t116 = 0 then (none) else (if (wrap64 (Int.tdiv bt118.1 t116)) = t115 then (tilefarmlaw1_ExtentExact.j0 k t116 bt118.1 ((Int.tmod bt118.1 t116) != 0)) else (tilefarmlaw1_ExtentExact.j0 k t116 bt118.1 true))) else (tilefarmlaw1_ExtentExact.j0 k t116 bt118.1 false))) else (tilefarmlaw1_ExtentExact.j0 k t116 bt118.1 true)) else (tilefarmlaw1_ExtentExact.j0 k t116 bt118.1 true)) else (tilefarmlaw1_ExtentExact.j0 k t116 bt118.1 false))) else (tilefarmlaw1_ExtentExact.j0 k t116 bt118.1 true)))))) = some r := H
  have A7 := Aside0.mk A70
  clear A70
  replace H := Option.bind_eq_some_iff.mp H
  obtain ⟨⟨t118, t119⟩, A80, H⟩ := H
  replace H : ((extent_Mul.f t116 t115 t117).bind fun bt120 => ((tilefarmgen_Mod.f a3 2305843009213693952).bind fun t122 => ((extent_Mul.f t115 t116 (wrap64 (t117 + t122))).bind fun bt123 => (if t118 = bt120.1 then (if (t119 != bt120.2) = true then (tilefarmlaw1_ExtentExact.j0 k t116 t118 true) else (if t119 = true then (if bt123.2 = true then (if bt123.1 = t118 then (if t118 > t117 then (tilefarmlaw1_ExtentExact.j0 k t116 t118 true) else (if t116 > 0 then (if t116 = 0 then (none) else (if (wrap64 (Int.tdiv t118 t116)) = t115 then (tilefarmlaw1_ExtentExact.j0 k t116 t118 ((Int.tmod t118 t116) != 0)) else (tilefarmlaw1_ExtentExact.j0 k t116 t118 true))) else (tilefarmlaw1_ExtentExact.j0 k t116 t118 false))) else (tilefarmlaw1_ExtentExact.j0 k t116 t118 true)) else (tilefarmlaw1_ExtentExact.j0 k t116 t118 true)) else (tilefarmlaw1_ExtentExact.j0 k t116 t118 false))) else (tilefarmlaw1_ExtentExact.j0 k t116 t118 true))))) = some r := H
  have A8 := Aside0.mk A80
  clear A80
  replace H := Option.bind_eq_some_iff.mp H
  obtain ⟨⟨t120, t121⟩, A90, H⟩ := H
  replace H : ((tilefarmgen_Mod.f a3 2305843009213693952).bind fun t122 => ((extent_Mul.f t115 t116 (wrap64 (t117 + t122))).bind fun bt123 => (if t118 = t120 then (if (t119 != t121) = true then (tilefarmlaw1_ExtentExact.j0 k t116 t118 true) else (if t119 = true then (if bt123.2 = true then (if bt123.1 = t118 then (if t118 > t117 then (tilefarmlaw1_ExtentExact.j0 k t116 t118 true) else (if t116 > 0 then (if t116 = 0 then (none) else (if (wrap64 (Int.tdiv t118 t116)) = t115 then (tilefarmlaw1_ExtentExact.j0 k t116 t118 ((Int.tmod t118 t116) != 0)) else (tilefarmlaw1_ExtentExact.j0 k t116 t118 true))) else (tilefarmlaw1_ExtentExact.j0 k t116 t118 false))) else (tilefarmlaw1_ExtentExact.j0 k t116 t118 true)) else (tilefarmlaw1_ExtentExact.j0 k t116 t118 true)) else (tilefarmlaw1_ExtentExact.j0 k t116 t118 false))) else (tilefarmlaw1_ExtentExact.j0 k t116 t118 true)))) = some r := H
  have A9 := Aside0.mk A90
  clear A90
  replace H := Option.bind_eq_some_iff.mp H
  obtain ⟨t122, A100, H⟩ := H
  replace H : ((extent_Mul.f t115 t116 (wrap64 (t117 + t122))).bind fun bt123 => (if t118 = t120 then (if (t119 != t121) = true then (tilefarmlaw1_ExtentExact.j0 k t116 t118 true) else (if t119 = true then (if bt123.2 = true then (if bt123.1 = t118 then (if t118 > t117 then (tilefarmlaw1_ExtentExact.j0 k t116 t118 true) else (if t116 > 0 then (if t116 = 0 then (none) else (if (wrap64 (Int.tdiv t118 t116)) = t115 then (tilefarmlaw1_ExtentExact.j0 k t116 t118 ((Int.tmod t118 t116) != 0)) else (tilefarmlaw1_ExtentExact.j0 k t116 t118 true))) else (tilefarmlaw1_ExtentExact.j0 k t116 t118 false))) else (tilefarmlaw1_ExtentExact.j0 k t116 t118 true)) else (tilefarmlaw1_ExtentExact.j0 k t116 t118 true)) else (tilefarmlaw1_ExtentExact.j0 k t116 t118 false))) else (tilefarmlaw1_ExtentExact.j0 k t116 t118 true))) = some r := H
  have A10 := Aside0.mk A100
  clear A100
  replace H := Option.bind_eq_some_iff.mp H
  obtain ⟨⟨t123, t124⟩, A110, H⟩ := H
  replace H : (if t118 = t120 then (if (t119 != t121) = true then (tilefarmlaw1_ExtentExact.j0 k t116 t118 true) else (if t119 = true then (if t124 = true then (if t123 = t118 then (if t118 > t117 then (tilefarmlaw1_ExtentExact.j0 k t116 t118 true) else (if t116 > 0 then (if t116 = 0 then (none) else (if (wrap64 (Int.tdiv t118 t116)) = t115 then (tilefarmlaw1_ExtentExact.j0 k t116 t118 ((Int.tmod t118 t116) != 0)) else (tilefarmlaw1_ExtentExact.j0 k t116 t118 true))) else (tilefarmlaw1_ExtentExact.j0 k t116 t118 false))) else (tilefarmlaw1_ExtentExact.j0 k t116 t118 true)) else (tilefarmlaw1_ExtentExact.j0 k t116 t118 true)) else (tilefarmlaw1_ExtentExact.j0 k t116 t118 false))) else (tilefarmlaw1_ExtentExact.j0 k t116 t118 true)) = some r := H
  have A11 := Aside0.mk A110
  clear A110
  have HC12 := Aside0.mk H
  clear H
  go_enter Try.func6, Try.ntmps6
  go_upto_region 5 with (first | ((with_reducible refine gate_callee (f := 12) rfl ?_); refine goesL_ (some 21) rfl rfl Try.func12 (by kernel_rfl) rfl #[.int .i64 a0, .int .i64 1099511627776] rfl (by (try simp only [List.map_toArray, List.map_cons, List.map_nil]); first | done | rfl | (simp only [List.length_drop, List.length_take]; rfl)) ?_; (with_reducible refine (tilefarmgen_Mod.calls a0 1099511627776 t115 _ A5.out).mono ?_); rintro e w' ⟨rfl, ⟨nd, rfl⟩⟩; refine ⟨_, rfl, ?_⟩) | ((with_reducible refine gate_callee (f := 12) rfl ?_); refine goesL_ (some 23) rfl rfl Try.func12 (by kernel_rfl) rfl #[.int .i64 a1, .int .i64 1073741824] rfl (by (try simp only [List.map_toArray, List.map_cons, List.map_nil]); first | done | rfl | (simp only [List.length_drop, List.length_take]; rfl)) ?_; (with_reducible refine (tilefarmgen_Mod.calls a1 1073741824 t116 _ A6.out).mono ?_); rintro e w' ⟨rfl, ⟨nd, rfl⟩⟩; refine ⟨_, rfl, ?_⟩) | ((with_reducible refine gate_callee (f := 12) rfl ?_); refine goesL_ (some 25) rfl rfl Try.func12 (by kernel_rfl) rfl #[.int .i64 a2, .int .i64 4611686018427387904] rfl (by (try simp only [List.map_toArray, List.map_cons, List.map_nil]); first | done | rfl | (simp only [List.length_drop, List.length_take]; rfl)) ?_; (with_reducible refine (tilefarmgen_Mod.calls a2 4611686018427387904 t117 _ A7.out).mono ?_); rintro e w' ⟨rfl, ⟨nd, rfl⟩⟩; refine ⟨_, rfl, ?_⟩) | ((with_reducible refine gate_callee (f := 9) rfl ?_); refine goesL_ (some 30) rfl rfl Try.func9 (by kernel_rfl) rfl #[.int .i64 t115, .int .i64 t116, .int .i64 t117] rfl (by (try simp only [List.map_toArray, List.map_cons, List.map_nil]); first | done | rfl | (simp only [List.length_drop, List.length_take]; rfl)) ?_; (with_reducible refine (extent_Mul.calls t115 t116 t117 t118 t119 _ A8.out).mono ?_); rintro e w' ⟨rfl, ⟨nd, rfl⟩⟩; refine ⟨_, rfl, ?_⟩) | ((with_reducible refine gate_callee (f := 9) rfl ?_); refine goesL_ (some 37) rfl rfl Try.func9 (by kernel_rfl) rfl #[.int .i64 t116, .int .i64 t115, .int .i64 t117] rfl (by (try simp only [List.map_toArray, List.map_cons, List.map_nil]); first | done | rfl | (simp only [List.length_drop, List.length_take]; rfl)) ?_; (with_reducible refine (extent_Mul.calls t116 t115 t117 t120 t121 _ A9.out).mono ?_); rintro e w' ⟨rfl, ⟨nd, rfl⟩⟩; refine ⟨_, rfl, ?_⟩) | ((with_reducible refine gate_callee (f := 12) rfl ?_); refine goesL_ (some 45) rfl rfl Try.func12 (by kernel_rfl) rfl #[.int .i64 a3, .int .i64 2305843009213693952] rfl (by (try simp only [List.map_toArray, List.map_cons, List.map_nil]); first | done | rfl | (simp only [List.length_drop, List.length_take]; rfl)) ?_; (with_reducible refine (tilefarmgen_Mod.calls a3 2305843009213693952 t122 _ A10.out).mono ?_); rintro e w' ⟨rfl, ⟨nd, rfl⟩⟩; refine ⟨_, rfl, ?_⟩) | ((with_reducible refine gate_callee (f := 9) rfl ?_); refine goesL_ (some 47) rfl rfl Try.func9 (by kernel_rfl) rfl #[.int .i64 t115, .int .i64 t116, .int .i64 (wrap64 (t117 + t122))] rfl (by (try simp only [List.map_toArray, List.map_cons, List.map_nil]); first | done | rfl | (simp only [List.length_drop, List.length_take]; rfl)) ?_; (with_reducible refine (extent_Mul.calls t115 t116 (wrap64 (t117 + t122)) t123 t124 _ A11.out).mono ?_); rintro e w' ⟨rfl, ⟨nd, rfl⟩⟩; refine ⟨_, rfl, ?_⟩))
  (try simp only [Act.put, List.setIfInBounds_toArray, List.set_cons_zero, List.set_cons_succ])
  go_cut [91] (fun v91 wc => ∃ (kq : Nat) (x91_11 : Bool), v91 = .bool x91_11 ∧ Aside0 (tilefarmlaw1_ExtentExact.j0 kq t116 t118 x91_11 = some r) ∧ Aside0 (kq ≤ k) ∧ Aside0 (Below w.heap.size w wc))
  case first =>
    have H := HC12.out
    clear HC12
    by_cases c13 : t118 = t120
    · rw [if_pos c13] at H
      have c13b0 : (t118 == t120) = true := beq_iff_eq.mpr c13
      have c13b1 : (t118 != t120) = false := bne_eq_false_iff_eq.mpr c13
      clear c13
      (first | rw [c13b0] | (simp only [i64_w, i32_w]; rw [c13b0]) | skip)
      by_cases c14 : (t119 != t121) = true
      · rw [if_pos c14] at H
        have c14b0 : (t119 != t121) = true := c14
        (try (have c14b1 : decide (t119 = t121) = false := by simpa using c14))
        (try (have c14b2 : (t119 == t121) = false := by simpa using c14))
        (try (have c14b3 : ¬ (t119 = t121) := by simpa using c14))
        clear c14
        have H' := Aside0.mk H
        clear H
        go_wp2
        go_meet
        case rel => exact ⟨_, (true), (by first | rfl | (simp; done) | (simp [*]; done)), H', ⟨by first | omega | exact Nat.le_refl _⟩, ⟨by repeat (first | (with_reducible first | exact HB.out | apply below_alloc | apply pw_below_drewN | apply below_drew1) | exact HB.out)⟩⟩
      · rw [if_neg c14] at H
        have c14b0 : (t119 != t121) = false := by simpa using c14
        (try (have c14b1 : decide (t119 = t121) = true := by simpa using c14))
        (try (have c14b2 : (t119 == t121) = true := by simpa using c14))
        clear c14
        by_cases c15 : t119 = true
        · subst c15
          have H1 : (if t124 = true then (if t123 = t118 then (if t118 > t117 then (tilefarmlaw1_ExtentExact.j0 k t116 t118 true) else (if t116 > 0 then (if t116 = 0 then (none) else (if (wrap64 (Int.tdiv t118 t116)) = t115 then (tilefarmlaw1_ExtentExact.j0 k t116 t118 ((Int.tmod t118 t116) != 0)) else (tilefarmlaw1_ExtentExact.j0 k t116 t118 true))) else (tilefarmlaw1_ExtentExact.j0 k t116 t118 false))) else (tilefarmlaw1_ExtentExact.j0 k t116 t118 true)) else (tilefarmlaw1_ExtentExact.j0 k t116 t118 true)) = some r := by rw [if_pos rfl] at H; exact H
          clear H
          have H := H1
          clear H1
          by_cases c16 : t124 = true
          · subst c16
            have H1 : (if t123 = t118 then (if t118 > t117 then (tilefarmlaw1_ExtentExact.j0 k t116 t118 true) else (if t116 > 0 then (if t116 = 0 then (none) else (if (wrap64 (Int.tdiv t118 t116)) = t115 then (tilefarmlaw1_ExtentExact.j0 k t116 t118 ((Int.tmod t118 t116) != 0)) else (tilefarmlaw1_ExtentExact.j0 k t116 t118 true))) else (tilefarmlaw1_ExtentExact.j0 k t116 t118 false))) else (tilefarmlaw1_ExtentExact.j0 k t116 t118 true)) = some r := by rw [if_pos rfl] at H; exact H
            clear H
            have H := H1
            clear H1
            by_cases c17 : t123 = t118
            · rw [if_pos c17] at H
              have c17b0 : (t123 == t118) = true := beq_iff_eq.mpr c17
              have c17b1 : (t123 != t118) = false := bne_eq_false_iff_eq.mpr c17
              clear c17
              by_cases c18 : t118 > t117
              · rw [if_pos c18] at H
                have c18b0 : decide (t117 < t118) = true := decide_eq_true c18
                clear c18
                have H' := Aside0.mk H
                clear H
                go_wp2
                go_meet
                case rel => exact ⟨_, (true), (by first | rfl | (simp; done) | (simp [*]; done)), H', ⟨by first | omega | exact Nat.le_refl _⟩, ⟨by repeat (first | (with_reducible first | exact HB.out | apply below_alloc | apply pw_below_drewN | apply below_drew1) | exact HB.out)⟩⟩
              · rw [if_neg c18] at H
                have c18b0 : decide (t117 < t118) = false := decide_eq_false c18
                clear c18
                by_cases c19 : t116 > 0
                · rw [if_pos c19] at H
                  have c19b0 : decide (0 < t116) = true := decide_eq_true c19
                  clear c19
                  by_cases c20 : t116 = 0
                  · rw [if_pos c20] at H
                    exact absurd H (by simp)
                  · rw [if_neg c20] at H
                    have c20b0 : (t116 == 0) = false := beq_eq_false_iff_ne.mpr c20
                    have c20b1 : (t116 != 0) = true := bne_iff_ne.mpr c20
                    by_cases c21 : (wrap64 (Int.tdiv t118 t116)) = t115
                    · rw [if_pos c21] at H
                      have c21b0 : ((wrap64 (Int.tdiv t118 t116)) == t115) = true := beq_iff_eq.mpr c21
                      have c21b1 : ((wrap64 (Int.tdiv t118 t116)) != t115) = false := bne_eq_false_iff_eq.mpr c21
                      clear c21
                      have H' := Aside0.mk H
                      clear H
                      go_wp2
                      go_meet
                      case rel => exact ⟨_, (((Int.tmod t118 t116) != 0)), (by first | rfl | (simp; done) | (simp [*]; done)), H', ⟨by first | omega | exact Nat.le_refl _⟩, ⟨by repeat (first | (with_reducible first | exact HB.out | apply below_alloc | apply pw_below_drewN | apply below_drew1) | exact HB.out)⟩⟩
                    · rw [if_neg c21] at H
                      have c21b0 : ((wrap64 (Int.tdiv t118 t116)) == t115) = false := beq_eq_false_iff_ne.mpr c21
                      have c21b1 : ((wrap64 (Int.tdiv t118 t116)) != t115) = true := bne_iff_ne.mpr c21
                      have H' := Aside0.mk H
                      clear H
                      go_wp2
                      go_meet
                      case rel => exact ⟨_, (true), (by first | rfl | (simp; done) | (simp [*]; done)), H', ⟨by first | omega | exact Nat.le_refl _⟩, ⟨by repeat (first | (with_reducible first | exact HB.out | apply below_alloc | apply pw_below_drewN | apply below_drew1) | exact HB.out)⟩⟩
                · rw [if_neg c19] at H
                  have c19b0 : decide (0 < t116) = false := decide_eq_false c19
                  clear c19
                  have H' := Aside0.mk H
                  clear H
                  go_wp2
                  go_meet
                  case rel => exact ⟨_, (false), (by first | rfl | (simp; done) | (simp [*]; done)), H', ⟨by first | omega | exact Nat.le_refl _⟩, ⟨by repeat (first | (with_reducible first | exact HB.out | apply below_alloc | apply pw_below_drewN | apply below_drew1) | exact HB.out)⟩⟩
            · rw [if_neg c17] at H
              have c17b0 : (t123 == t118) = false := beq_eq_false_iff_ne.mpr c17
              have c17b1 : (t123 != t118) = true := bne_iff_ne.mpr c17
              have H' := Aside0.mk H
              clear H
              go_wp2
              go_meet
              case rel => exact ⟨_, (true), (by first | rfl | (simp; done) | (simp [*]; done)), H', ⟨by first | omega | exact Nat.le_refl _⟩, ⟨by repeat (first | (with_reducible first | exact HB.out | apply below_alloc | apply pw_below_drewN | apply below_drew1) | exact HB.out)⟩⟩
          · replace c16 := Bool.eq_false_iff.mpr c16
            subst c16
            have H1 : (tilefarmlaw1_ExtentExact.j0 k t116 t118 true) = some r := by rw [if_neg (show ¬ (false = true) by decide)] at H; exact H
            clear H
            have H := H1
            clear H1
            have H' := Aside0.mk H
            clear H
            go_wp2
            go_meet
            case rel => exact ⟨_, (true), (by first | rfl | (simp; done) | (simp [*]; done)), H', ⟨by first | omega | exact Nat.le_refl _⟩, ⟨by repeat (first | (with_reducible first | exact HB.out | apply below_alloc | apply pw_below_drewN | apply below_drew1) | exact HB.out)⟩⟩
        · replace c15 := Bool.eq_false_iff.mpr c15
          subst c15
          have H1 : (tilefarmlaw1_ExtentExact.j0 k t116 t118 false) = some r := by rw [if_neg (show ¬ (false = true) by decide)] at H; exact H
          clear H
          have H := H1
          clear H1
          have H' := Aside0.mk H
          clear H
          go_wp2
          go_meet
          case rel => exact ⟨_, (false), (by first | rfl | (simp; done) | (simp [*]; done)), H', ⟨by first | omega | exact Nat.le_refl _⟩, ⟨by repeat (first | (with_reducible first | exact HB.out | apply below_alloc | apply pw_below_drewN | apply below_drew1) | exact HB.out)⟩⟩
    · rw [if_neg c13] at H
      have c13b0 : (t118 == t120) = false := beq_eq_false_iff_ne.mpr c13
      have c13b1 : (t118 != t120) = true := bne_iff_ne.mpr c13
      (first | rw [c13b0] | (simp only [i64_w, i32_w]; rw [c13b0]) | skip)
      have H' := Aside0.mk H
      clear H
      go_wp2
      go_meet
      case rel => exact ⟨_, (true), (by first | rfl | (simp; done) | (simp [*]; done)), H', ⟨by first | omega | exact Nat.le_refl _⟩, ⟨by repeat (first | (with_reducible first | exact HB.out | apply below_alloc | apply pw_below_drewN | apply below_drew1) | exact HB.out)⟩⟩
  case rest =>
    clear HC12
    try clear c1
    try clear c2
    try clear p2
    try clear c6
    try clear p6
    try clear c9
    try clear c12
    try clear c13
    try clear c13b0
    try clear c13b1
    try clear c14
    try clear c14b0
    try clear c14b1
    try clear c14b2
    try clear c15
    try clear c16
    try clear c17
    try clear c17b0
    try clear c17b1
    try clear c18
    try clear c18b0
    try clear c19
    try clear c19b0
    try clear c20
    try clear c20b0
    try clear c20b1
    try clear c21
    try clear c21b0
    try clear c21b1
    obtain ⟨kq, x91_11, rfl, HA, HJ11, HB⟩ := hcut
    cases kq with
    | zero => exact absurd HA.out (by simp [tilefarmlaw1_ExtentExact.j0])
    | succ kj11 =>
      have H := HA.out
      clear HA
      simp only [tilefarmlaw1_ExtentExact.j0] at H
      by_cases c22 : x91_11 = true
      · subst c22
        have H1 : (some false) = some r := by rw [if_pos rfl] at H; exact H
        clear H
        have H := H1
        clear H1
        obtain rfl := Option.some.inj H
        go_wp2
        go_ret
        exact ⟨by first | rfl | (simp [errW_none, errW_some] <;> rfl) | (simp [*, errW_none, errW_some] <;> rfl), by repeat (first | (with_reducible first | exact HB.out | apply below_alloc | apply pw_below_drewN | apply below_drew1) | exact HB.out)⟩
      · replace c22 := Bool.eq_false_iff.mpr c22
        subst c22
        have H1 : ((extent_Sum.f kj11 (([t118, t116] : List Int)) 4611686018427387904).bind fun bt128 => (if bt128.2 = true then (if (wrap64 (bt128.1 - t116)) = t118 then ((tilefarmlaw1_sane.f kj11).bind fun t130 => (some t130)) else (some false)) else ((tilefarmlaw1_sane.f kj11).bind fun t131 => (some t131)))) = some r := by rw [if_neg (show ¬ (false = true) by decide)] at H; exact H
        clear H
        have H := H1
        clear H1
        obtain ⟨y125, hy125⟩ : ∃ y_ : List Int, y_ = (([t118, t116] : List Int)) := ⟨_, rfl⟩
        replace H : ((extent_Sum.f kj11 y125 4611686018427387904).bind fun bt128 => (if bt128.2 = true then (if (wrap64 (bt128.1 - t116)) = t118 then ((tilefarmlaw1_sane.f kj11).bind fun t130 => (some t130)) else (some false)) else ((tilefarmlaw1_sane.f kj11).bind fun t131 => (some t131)))) = some r := by first | (rw [hy125]; with_reducible exact H) | (have H2_ := (Option.bind_some _ _).symm.trans H; rw [hy125]; with_reducible exact H2_) | (have H2_ := (Option.bind_some _ _).symm.trans H; with_reducible exact H2_) | with_reducible exact H | (rw [hy125]; exact H) | exact H
        have Ny125 := Aside0.mk hy125
        clear hy125
        replace H := Option.bind_eq_some_iff.mp H
        obtain ⟨⟨t128, t129⟩, A230, H⟩ := H
        replace H : (if t129 = true then (if (wrap64 (t128 - t116)) = t118 then ((tilefarmlaw1_sane.f kj11).bind fun t130 => (some t130)) else (some false)) else ((tilefarmlaw1_sane.f kj11).bind fun t131 => (some t131))) = some r := H
        have A23 := Aside0.mk A230
        clear A230
        by_cases c24 : t129 = true
        · subst c24
          have H1 : (if (wrap64 (t128 - t116)) = t118 then ((tilefarmlaw1_sane.f kj11).bind fun t130 => (some t130)) else (some false)) = some r := by rw [if_pos rfl] at H; exact H
          clear H
          have H := H1
          clear H1
          by_cases c25 : (wrap64 (t128 - t116)) = t118
          · rw [if_pos c25] at H
            have c25b0 : ((wrap64 (t128 - t116)) == t118) = true := beq_iff_eq.mpr c25
            have c25b1 : ((wrap64 (t128 - t116)) != t118) = false := bne_eq_false_iff_eq.mpr c25
            clear c25
            replace H := Option.bind_eq_some_iff.mp H
            obtain ⟨t130, A260, H⟩ := H
            replace H : (some t130) = some r := H
            have A26 := Aside0.mk A260
            clear A260
            obtain rfl := Option.some.inj H
            go_wp2_with (first | ((with_reducible refine gate_dst (N := 95) rfl ?_); refine Kd.R_lit (Kd.int .i64) _ 3 ?hg (N := 95) ?hd (xs := ([t118, t116] : List Int)) (inner := [.int .i64 t118, .int .i64 t116]) (ok := fun _ => True) (okp := fun _ => True) ?hr ?hp (fun _ hk => hk) trivial (Below.refl _ _) (Nat.le_refl _) (by simp) ?_; (case hd => rfl); (case hg => rfl); (case hr => first | (go_simp; done) | (go_simp; rfl)); (case hp => exact (Reps.one (show Kd.M (Kd.int .i64) _ _ _ t118 [.int .i64 t118] from rfl) (Reps.one (show Kd.M (Kd.int .i64) _ _ _ t116 [.int .i64 t116] from rfl) (Reps.none _ _)))); intro v126 w27 ho28 hb hg_ hnew_; clear hg_ hnew_; (first | rw [← Ny125.out] at ho28 | (simp only [Int.reduceToNat] at ho28; rw [← Ny125.out] at ho28)); have n0_ := Aside0.mk (Kd.R_lower ho28 (below_size (by repeat (first | (with_reducible first | exact HB.out | apply below_alloc | apply pw_below_drewN | apply below_drew1) | exact HB.out)))); have n1_ := Aside0.mk (below_step (by repeat (first | (with_reducible first | exact HB.out | apply below_alloc | apply pw_below_drewN | apply below_drew1) | exact HB.out)) hb); clear HB; have HO127 := n0_; have HB := n1_; clear n0_ n1_; clear hb ho28; obtain ⟨Ao29, co29, eo29⟩ := Kd.R_slice HO127.out; subst eo29) | ((with_reducible refine gate_callee (f := 13) rfl ?_); refine goesL_ (some 96) rfl rfl Try.func13 (by kernel_rfl) rfl #[.slice Ao29 y125.length co29, .int .i64 4611686018427387904] rfl (by (try simp only [List.map_toArray, List.map_cons, List.map_nil]); first | done | rfl | (simp only [List.length_drop, List.length_take]; rfl)) ?_; (with_reducible refine (extent_Sum.calls kj11 _ _ y125 4611686018427387904 t128 true _ ?side1 ?side2 A23.out).mono ?_); (case side1 => repeat (first | exact (Kd.R_reads' HO127.out).2.2 | (with_reducible refine Kd.C_alloc ?_ _) | (with_reducible refine Kd.C_drewN ?_ _) | (with_reducible refine Kd.C_drew ?_))); (case side2 => exact (Kd.R_reads' HO127.out).2.1); rintro e w' ⟨rfl, ⟨nd, rfl⟩⟩; refine ⟨_, rfl, ?_⟩) | (go_at_call 11; (with_reducible refine (tilefarmlaw1_sane.calls kj11  t130 _ A26.out).mono ?_); rintro e w30 ⟨rfl, hb⟩; have n0_ := Aside0.mk (Kd.R_below (by (with_reducible repeat (first | apply Kd.R_alloc | apply Kd.R_drewN | apply Kd.R_drew)); exact HO127.out) hb); have n1_ := Aside0.mk (below_step (by repeat (first | (with_reducible first | exact HB.out | apply below_alloc | apply pw_below_drewN | apply below_drew1) | exact HB.out)) hb); clear HO127; clear HB; have HO127 := n0_; have HB := n1_; clear n0_ n1_; (try clear hb); (try clear hb2); (try clear hk); (try clear hi)))
            go_ret
            exact ⟨by first | rfl | (simp [errW_none, errW_some] <;> rfl) | (simp [*, errW_none, errW_some] <;> rfl), by repeat (first | (with_reducible first | exact HB.out | apply below_alloc | apply pw_below_drewN | apply below_drew1) | exact HB.out)⟩
          · rw [if_neg c25] at H
            have c25b0 : ((wrap64 (t128 - t116)) == t118) = false := beq_eq_false_iff_ne.mpr c25
            have c25b1 : ((wrap64 (t128 - t116)) != t118) = true := bne_iff_ne.mpr c25
            obtain rfl := Option.some.inj H
            go_wp2_with (first | ((with_reducible refine gate_dst (N := 95) rfl ?_); refine Kd.R_lit (Kd.int .i64) _ 3 ?hg (N := 95) ?hd (xs := ([t118, t116] : List Int)) (inner := [.int .i64 t118, .int .i64 t116]) (ok := fun _ => True) (okp := fun _ => True) ?hr ?hp (fun _ hk => hk) trivial (Below.refl _ _) (Nat.le_refl _) (by simp) ?_; (case hd => rfl); (case hg => rfl); (case hr => first | (go_simp; done) | (go_simp; rfl)); (case hp => exact (Reps.one (show Kd.M (Kd.int .i64) _ _ _ t118 [.int .i64 t118] from rfl) (Reps.one (show Kd.M (Kd.int .i64) _ _ _ t116 [.int .i64 t116] from rfl) (Reps.none _ _)))); intro v126 w31 ho32 hb hg_ hnew_; clear hg_ hnew_; (first | rw [← Ny125.out] at ho32 | (simp only [Int.reduceToNat] at ho32; rw [← Ny125.out] at ho32)); have n0_ := Aside0.mk (Kd.R_lower ho32 (below_size (by repeat (first | (with_reducible first | exact HB.out | apply below_alloc | apply pw_below_drewN | apply below_drew1) | exact HB.out)))); have n1_ := Aside0.mk (below_step (by repeat (first | (with_reducible first | exact HB.out | apply below_alloc | apply pw_below_drewN | apply below_drew1) | exact HB.out)) hb); clear HB; have HO127 := n0_; have HB := n1_; clear n0_ n1_; clear hb ho32; obtain ⟨Ao33, co33, eo33⟩ := Kd.R_slice HO127.out; subst eo33) | ((with_reducible refine gate_callee (f := 13) rfl ?_); refine goesL_ (some 96) rfl rfl Try.func13 (by kernel_rfl) rfl #[.slice Ao33 y125.length co33, .int .i64 4611686018427387904] rfl (by (try simp only [List.map_toArray, List.map_cons, List.map_nil]); first | done | rfl | (simp only [List.length_drop, List.length_take]; rfl)) ?_; (with_reducible refine (extent_Sum.calls kj11 _ _ y125 4611686018427387904 t128 true _ ?side1 ?side2 A23.out).mono ?_); (case side1 => repeat (first | exact (Kd.R_reads' HO127.out).2.2 | (with_reducible refine Kd.C_alloc ?_ _) | (with_reducible refine Kd.C_drewN ?_ _) | (with_reducible refine Kd.C_drew ?_))); (case side2 => exact (Kd.R_reads' HO127.out).2.1); rintro e w' ⟨rfl, ⟨nd, rfl⟩⟩; refine ⟨_, rfl, ?_⟩))
            go_ret
            exact ⟨by first | rfl | (simp [errW_none, errW_some] <;> rfl) | (simp [*, errW_none, errW_some] <;> rfl), by repeat (first | (with_reducible first | exact HB.out | apply below_alloc | apply pw_below_drewN | apply below_drew1) | exact HB.out)⟩
        · replace c24 := Bool.eq_false_iff.mpr c24
          subst c24
          have H1 : ((tilefarmlaw1_sane.f kj11).bind fun t131 => (some t131)) = some r := by rw [if_neg (show ¬ (false = true) by decide)] at H; exact H
          clear H
          have H := H1
          clear H1
          replace H := Option.bind_eq_some_iff.mp H
          obtain ⟨t131, A340, H⟩ := H
          replace H : (some t131) = some r := H
          have A34 := Aside0.mk A340
          clear A340
          obtain rfl := Option.some.inj H
          go_wp2_with (first | ((with_reducible refine gate_dst (N := 95) rfl ?_); refine Kd.R_lit (Kd.int .i64) _ 3 ?hg (N := 95) ?hd (xs := ([t118, t116] : List Int)) (inner := [.int .i64 t118, .int .i64 t116]) (ok := fun _ => True) (okp := fun _ => True) ?hr ?hp (fun _ hk => hk) trivial (Below.refl _ _) (Nat.le_refl _) (by simp) ?_; (case hd => rfl); (case hg => rfl); (case hr => first | (go_simp; done) | (go_simp; rfl)); (case hp => exact (Reps.one (show Kd.M (Kd.int .i64) _ _ _ t118 [.int .i64 t118] from rfl) (Reps.one (show Kd.M (Kd.int .i64) _ _ _ t116 [.int .i64 t116] from rfl) (Reps.none _ _)))); intro v126 w35 ho36 hb hg_ hnew_; clear hg_ hnew_; (first | rw [← Ny125.out] at ho36 | (simp only [Int.reduceToNat] at ho36; rw [← Ny125.out] at ho36)); have n0_ := Aside0.mk (Kd.R_lower ho36 (below_size (by repeat (first | (with_reducible first | exact HB.out | apply below_alloc | apply pw_below_drewN | apply below_drew1) | exact HB.out)))); have n1_ := Aside0.mk (below_step (by repeat (first | (with_reducible first | exact HB.out | apply below_alloc | apply pw_below_drewN | apply below_drew1) | exact HB.out)) hb); clear HB; have HO127 := n0_; have HB := n1_; clear n0_ n1_; clear hb ho36; obtain ⟨Ao37, co37, eo37⟩ := Kd.R_slice HO127.out; subst eo37) | ((with_reducible refine gate_callee (f := 13) rfl ?_); refine goesL_ (some 96) rfl rfl Try.func13 (by kernel_rfl) rfl #[.slice Ao37 y125.length co37, .int .i64 4611686018427387904] rfl (by (try simp only [List.map_toArray, List.map_cons, List.map_nil]); first | done | rfl | (simp only [List.length_drop, List.length_take]; rfl)) ?_; (with_reducible refine (extent_Sum.calls kj11 _ _ y125 4611686018427387904 t128 false _ ?side1 ?side2 A23.out).mono ?_); (case side1 => repeat (first | exact (Kd.R_reads' HO127.out).2.2 | (with_reducible refine Kd.C_alloc ?_ _) | (with_reducible refine Kd.C_drewN ?_ _) | (with_reducible refine Kd.C_drew ?_))); (case side2 => exact (Kd.R_reads' HO127.out).2.1); rintro e w' ⟨rfl, ⟨nd, rfl⟩⟩; refine ⟨_, rfl, ?_⟩) | (go_at_call 11; (with_reducible refine (tilefarmlaw1_sane.calls kj11  t131 _ A34.out).mono ?_); rintro e w38 ⟨rfl, hb⟩; have n0_ := Aside0.mk (Kd.R_below (by (with_reducible repeat (first | apply Kd.R_alloc | apply Kd.R_drewN | apply Kd.R_drew)); exact HO127.out) hb); have n1_ := Aside0.mk (below_step (by repeat (first | (with_reducible first | exact HB.out | apply below_alloc | apply pw_below_drewN | apply below_drew1) | exact HB.out)) hb); clear HO127; clear HB; have HO127 := n0_; have HB := n1_; clear n0_ n1_; (try clear hb); (try clear hb2); (try clear hk); (try clear hi)))
          go_ret
          exact ⟨by first | rfl | (simp [errW_none, errW_some] <;> rfl) | (simp [*, errW_none, errW_some] <;> rfl), by repeat (first | (with_reducible first | exact HB.out | apply below_alloc | apply pw_below_drewN | apply below_drew1) | exact HB.out)⟩

/-- THE ONE PURE STATEMENT of tilefarmlaw1_ExtentExact: yours. -/
def tilefarmlaw1_ExtentExact.Pure : Prop := ∀ (a0 : Int) (a1 : Int) (a2 : Int) (a3 : Int), (Lit.int .i64 a0).wf = true → (Lit.int .i64 a1).wf = true → (Lit.int .i64 a2).wf = true → (Lit.int .i64 a3).wf = true → ∃ k, tilefarmlaw1_ExtentExact.f k a0 a1 a2 a3 = some true
theorem tilefarmlaw1_ExtentExact.walk (P : tilefarmlaw1_ExtentExact.Pure) (a0 : Int) (a1 : Int) (a2 : Int) (a3 : Int) (w : World) (w0 : (Lit.int .i64 a0).wf = true) (w1 : (Lit.int .i64 a1).wf = true) (w2 : (Lit.int .i64 a2).wf = true) (w3 : (Lit.int .i64 a3).wf = true) :
    Calls Try.prog 6 #[.int .i64 a0, .int .i64 a1, .int .i64 a2, .int .i64 a3] w fun e w' => e = .returned (.bool true) ∧ Below w.heap.size w w' := by
  obtain ⟨k, h⟩ := P a0 a1 a2 a3 w0 w1 w2 w3
  refine (tilefarmlaw1_ExtentExact.calls k a0 a1 a2 a3 true w h).mono ?_
  rintro e w' ⟨rfl, hd⟩
  exact ⟨rfl, hd⟩

end Go.Proofs.Ytfbkfefidjpohaa.PExtentExact
