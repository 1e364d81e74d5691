/- slices.IndexFunc, slices.DeleteFunc at the task's type, walked. -/
import Derived.Test.YtfneiocgjoalkaaRm
namespace Go.Proofs.Ytfneiocgjoalkaa.Rm
open Go.RowKit Go.Proofs.YtfneiocgjoalkaaW.PrintWords Go.Proofs.YtfneiocgjoalkaaW.PrintLast Go.Proofs.YtfneiocgjoalkaaW.PrintMore
open Go.Proofs.Ytfneiocgjoalkaa.PInjectorFollows
open Go.Proofs.Ytfneiocgjoalkaa.Ij
set_option linter.unusedVariables false
attribute [local go_sem] refV

set_option maxHeartbeats 1000000 in
set_option maxRecDepth 100000 in
theorem index_calls {w : World} {g cap jb : Nat} {l : List S33} (job : Int) (h : Raw w g cap l) (hj : w.cell? ⟨jb, 0, none⟩ = some (.int .i64 job)) (hjb : jb < w.heap.size) (hl : l.length ≤ 1000000) :
    Calls Try.prog 30 #[.slice (some ⟨g, 0, none⟩) l.length cap, .func (.func 28) #[] #[.pointer (some ⟨jb, 0, none⟩)]] w fun e w' => Below w.heap.size w w' ∧
      ((e = .returned (.int .i64 (-1)) ∧ ∀ x ∈ l, x.f0 ≠ job) ∨ ∃ (k : Nat) (x : S33), e = .returned (.int .i64 (k : Int)) ∧ l[k]? = some x ∧ x.f0 = job ∧ ∀ y ∈ l.take k, y.f0 ≠ job) := by
  have H := Aside0.mk h
  have HJ := Aside0.mk hj
  have hc := h.len
  clear h hj
  go_enter Try.func30, Try.ntmps30
  go_wp2_with fail
  go_loopw [8] (fun v8 wr => ∃ k : Nat, k ≤ l.length ∧ v8 = .int .i64 (k : Int) ∧ Aside0 (∀ y ∈ l.take k, y.f0 ≠ job) ∧ Aside0 (Below w.heap.size w wr)) (fun i _ => l.length - (intOf i).toNat)
  case atStart => exact ⟨0, by omega, rfl, ⟨by simp⟩, ⟨Below.refl _ _⟩⟩
  case round =>
    obtain ⟨k, hk, rfl, HN, HB⟩ := hrel
    by_cases hlt : k < l.length
    · obtain ⟨x, hx⟩ : ∃ x, l[k]? = some x := ⟨_, List.getElem?_eq_getElem hlt⟩
      obtain ⟨c0, c1⟩ := (H.out.below HB.out).cells k x hx
      have hj1 := (HB.out.cell (p := ⟨jb, 0, none⟩) hjb).trans HJ.out
      have HJ1 := Aside0.mk hj1
      have HX := Aside0.mk hx
      clear hj1 hx
      have i0 : (0 : Int) ≤ (k : Int) := by omega
      have i1 : (k : Int) < (l.length : Int) := by omega
      go_wp2_with fail
      refine (pred_calls x jb job wr HJ1.out).mono ?_
      rintro e w2 ⟨rfl, b2⟩
      have HB2 := Aside0.mk (below_then HB.out HB.out.size b2)
      clear b2 c0 c1
      by_cases e0 : (x.f0 == job) = true
      · go_wp2_with fail
        go_ret
        exact ⟨HB2.out, .inr ⟨k, x, rfl, HX.out, by simpa using e0, HN.out⟩⟩
      · have e0 : (x.f0 == job) = false := by simpa using e0
        go_wp2_with fail
        go_roundw
        case rel =>
          refine ⟨k + 1, by omega, by go_num, ⟨fun y hy => ?_⟩, HB2⟩
          rw [List.take_add_one, HX.out] at hy
          rcases List.mem_append.1 hy with hy | hy
          · exact HN.out y hy
          · simp at hy
            subst hy
            simpa using e0
        case measure => simp [intOf]; omega
    · obtain rfl : k = l.length := by omega
      go_wp2_with fail
      go_ret
      exact ⟨HB.out, .inl ⟨rfl, fun x hx => HN.out x (by rw [List.take_length]; exact hx)⟩⟩

theorem below_cells {w0 : World} {B g : Nat} : ∀ (vs : List Value) (o : Nat) (w : World), Below B w0 w → B ≤ g → Below B w0 (w.setCells g o vs)
  | [], _, _, h, _ => h
  | v :: r, o, w, h, hg => by
    rw [World.setCells]
    exact below_cells r (o + 1) _ (h.setCell (p := ⟨g, o, none⟩) hg v) hg

theorem keep_none (job : Int) (l : List S33) (h : ∀ x ∈ l, x.f0 ≠ job) : keep job l = l := List.filter_eq_self.2 (fun x hx => by simpa using h x hx)
theorem keep_snoc_yes (job : Int) (l : List S33) (x : S33) (h : (x.f0 == job) = false) : keep job (l ++ [x]) = keep job l ++ [x] := by
  unfold keep; rw [List.filter_append]; simp at h; simp [h]
theorem keep_snoc_no (job : Int) (l : List S33) (x : S33) (h : (x.f0 == job) = true) : keep job (l ++ [x]) = keep job l := by
  unfold keep; rw [List.filter_append]; simp at h; simp [h]

set_option maxHeartbeats 2000000 in
set_option maxRecDepth 100000 in
theorem delete_calls {w0 w : World} {B g cap jb : Nat} {l : List S33} (job : Int) (hB : Below B w0 w) (hBw : B ≤ w.heap.size) (hBg : B ≤ g) (h : Raw w g cap l) (hj : w.cell? ⟨jb, 0, none⟩ = some (.int .i64 job)) (hjb : jb < w.heap.size) (hjg : jb ≠ g) (hl : l.length ≤ 1000000) :
    Calls Try.prog 26 #[.slice (some ⟨g, 0, none⟩) l.length cap, .func (.func 28) #[] #[.pointer (some ⟨jb, 0, none⟩)]] w fun e w' =>
      e = .returned (.slice (some ⟨g, 0, none⟩) (keep job l).length cap) ∧ Raw w' g cap (keep job l) ∧ Below B w0 w' ∧ Kept w w' (fun k => k = g) := by
  have H := Aside0.mk h
  have HJ := Aside0.mk hj
  have hc := h.len
  have hcm := h.cap
  have hgl := h.lt
  clear h hj
  go_enter Try.func26, Try.ntmps26
  go_wp2_with fail
  refine (index_calls job H.out HJ.out hjb hl).mono ?_
  rintro e w1 ⟨b1, ⟨rfl, hn⟩ | ⟨k, x, rfl, hx, hxj, hn⟩⟩
  · have HN := Aside0.mk (keep_none job l hn)
    have HB := Aside0.mk b1
    clear b1 hn
    go_wp2_with fail
    go_ret
    rw [HN.out]
    exact ⟨rfl, H.out.below HB.out, below_then hB hBw HB.out, Kept.of_below HB.out _⟩
  · have hkl := (List.getElem?_eq_some_iff.1 hx).1
    have hk1 : ((k : Int) == -1) = false := beq_eq_false_iff_ne.mpr (by omega)
    have hkeep : keep job (l.take (k + 1)) = l.take k := by
      rw [List.take_add_one, hx]
      show keep job (l.take k ++ [x]) = _
      rw [keep_snoc_no _ _ _ (by simp [hxj]), keep_none job _ hn]
    have HB := Aside0.mk b1
    have HKP := Aside0.mk hkeep
    have R1 := Aside0.mk (H.out.below b1)
    have K1 : Aside0 (Kept w w1 (fun q => q = g)) := ⟨Kept.of_below b1 _⟩
    have L1 := Aside0.mk (below_then hB hBw b1)
    clear b1 hn hx hxj hkeep
    go_wp2_with fail
    go_loopw [5, 6] (fun v5 v6 wr => ∃ (i j : Nat) (m : List S33), v5 = .int .i64 (i : Int) ∧ v6 = .int .i64 (j : Int) ∧ i < j ∧ j ≤ l.length ∧ m.length = l.length ∧ Aside0 (m.take i = keep job (l.take j)) ∧ Aside0 (m.drop j = l.drop j) ∧ Aside0 (Raw wr g cap m) ∧ Aside0 (Kept w wr (fun q => q = g)) ∧ Aside0 (Below B w0 wr)) (fun _ j _ => l.length - (intOf j).toNat)
    case atStart => exact ⟨k, k + 1, l, rfl, by go_num, by omega, by omega, rfl, ⟨by rw [HKP.out]⟩, ⟨rfl⟩, R1, K1, L1⟩
    case round =>
      clear R1 K1 L1 HB HKP hk1 hkl
      obtain ⟨i, j, m, rfl, rfl, hij, hjl, hml, HT, HD, HR, HK, HL⟩ := hrel
      by_cases hlt : j < l.length
      · obtain ⟨x, hx⟩ : ∃ x, l[j]? = some x := ⟨_, List.getElem?_eq_getElem hlt⟩
        have hmx : m[j]? = some x := by
          have e1 : (m.drop j)[0]? = m[j]? := by rw [List.getElem?_drop]; rfl
          have e2 : (l.drop j)[0]? = l[j]? := by rw [List.getElem?_drop]; rfl
          rw [← e1, HD.out, e2, hx]
        obtain ⟨c0, c1⟩ := HR.out.cells j x hmx
        have HX := Aside0.mk hx
        have bx := below_alloc (Below.refl wr.heap.size wr) (.cells #[.int .i64 x.f0, .int .i64 x.f1] 33)
        have hsz := HK.out.1
        have hj1 := (bx.cell (p := ⟨jb, 0, none⟩) (Nat.lt_of_lt_of_le hjb hsz)).trans ((World.cell?_of_block (a := ⟨jb, 0, none⟩) (HK.out.2 jb hjb hjg)).trans HJ.out)
        have HJ1 := Aside0.mk hj1
        have HB1 := Aside0.mk bx
        have HO := Aside0.mk (blk_new wr (.cells #[.int .i64 x.f0, .int .i64 x.f1] 33))
        clear hx hmx hj1 bx
        have i0 : (0 : Int) ≤ (j : Int) := by omega
        have i1 : (j : Int) < (l.length : Int) := by omega
        go_wp2_with fail
        refine (pred_calls x jb job _ HJ1.out).mono ?_
        rintro e w2 ⟨rfl, b2⟩
        have o2 := blk_below HO.out b2
        have hb2 := below_then HB1.out HB1.out.size b2
        have R2 := Aside0.mk (HR.out.below hb2)
        have K2 := Aside0.mk (HK.out.then_ (Kept.of_below hb2 (fun q => q = g)) (fun q hq => .inl hq))
        have L2 := Aside0.mk (below_then HL.out (Nat.le_trans hBw hsz) hb2)
        have hgs : wr.heap.size ≠ g := by omega
        have l0 := (blk_cell o2 0).trans rfl
        have l1 := (blk_cell o2 1).trans rfl
        clear b2 hb2 o2 HO HB1 HJ1 c0 c1
        by_cases e0 : (x.f0 == job) = true
        · go_wp2_with fail
          go_roundw
          case rel =>
            refine ⟨i, j + 1, m, rfl, by go_num, by omega, by omega, hml, ⟨?_⟩, ⟨?_⟩, R2, K2, L2⟩
            · rw [HT.out, List.take_add_one, HX.out]
              exact (keep_snoc_no _ _ _ e0).symm
            · rw [← List.drop_drop, HD.out, List.drop_drop]
          case measure => simp [intOf]; omega
        · have e0 : (x.f0 == job) = false := by simpa using e0
          obtain ⟨y, hy⟩ : ∃ y, m[i]? = some y := ⟨_, List.getElem?_eq_getElem (by omega)⟩
          obtain ⟨d0, d1⟩ := R2.out.cells i y hy
          have f0 := R2.out.frozen (i * 2)
          have f1 := R2.out.frozen (i * 2 + 1)
          have i2 : (0 : Int) ≤ (i : Int) := by omega
          have i3 : (i : Int) < (l.length : Int) := by omega
          clear hy
          go_wp2_with fail
          go_roundw
          case rel =>
            refine ⟨i + 1, j + 1, m.set i x, by go_num, by go_num, by omega, by omega, by simpa using hml, ⟨?_⟩, ⟨?_⟩, ⟨R2.out.set x (by omega)⟩, ⟨?_⟩, ⟨?_⟩⟩
            · rw [List.take_add_one, List.getElem?_set_self (by omega), List.take_set_of_le (Nat.le_refl _), HT.out, List.take_add_one (l := l), HX.out]
              exact (keep_snoc_yes _ _ _ e0).symm
            · rw [List.drop_set_of_lt (by omega), ← List.drop_drop, HD.out, List.drop_drop]
            · exact (K2.out.setCell (p := ⟨g, i * 2, none⟩) (.inl rfl) _).setCell (p := ⟨g, i * 2 + 1, none⟩) (.inl rfl) _
            · exact (L2.out.setCell (p := ⟨g, i * 2, none⟩) hBg _).setCell (p := ⟨g, i * 2 + 1, none⟩) hBg _
          case measure => simp [intOf]; omega
      · obtain rfl : j = l.length := by omega
        obtain ⟨cur, o1, o2, _⟩ := HR.out.blk
        obtain ⟨vs, v1, v2⟩ := run_clear wr g (i * 2) (l.length - i) (cap - i) cur o1 (by omega)
        have ci : ¬ cap = i := by omega
        have i0 : (0 : Int) ≤ (i : Int) := by omega
        have i1 : (i : Int) < (l.length : Int) := by omega
        have HV := Aside0.mk v1
        clear v1
        go_wp2_with fail
        go_ret
        have hk : keep job l = m.take i := by rw [HT.out, List.take_length]
        have hi : (keep job l).length = i := by rw [hk, List.length_take]; omega
        have hs := (setCells_same g vs (i * 2) wr).2.2.2
        rw [hi, hk]
        exact ⟨rfl, HR.out.clear (by omega) vs (by rw [HV.out]; omega), below_cells vs (i * 2) wr HL.out hBg, HK.out.then_ ⟨by omega, fun q _ hq => setCells_far vs (i * 2) q hq⟩ (fun q hq => .inl hq)⟩

set_option maxHeartbeats 1000000 in
set_option maxRecDepth 100000 in
theorem index_nil (n c jb : Nat) (w : World) (hn : n = 0) : Calls Try.prog 30 #[.slice none n c, .func (.func 28) #[] #[.pointer (some ⟨jb, 0, none⟩)]] w fun e w' => e = .returned (.int .i64 (-1)) ∧ w = w' := by
  subst hn
  go_enter Try.func30, Try.ntmps30
  go_wp2_with fail
  go_loopw [8] (fun v8 wr => v8 = .int .i64 0 ∧ w = wr) (fun i _ => 0)
  case atStart => exact ⟨rfl, rfl⟩
  case round =>
    obtain ⟨rfl, rfl⟩ := hrel
    go_wp2_with fail
    go_ret
    exact ⟨rfl, rfl⟩

set_option maxHeartbeats 1000000 in
set_option maxRecDepth 100000 in
theorem delete_nil (jb : Nat) (w : World) : Calls Try.prog 26 #[.slice none 0 0, .func (.func 28) #[] #[.pointer (some ⟨jb, 0, none⟩)]] w fun e w' => e = .returned (.slice none 0 0) ∧ w = w' := by
  go_enter Try.func26, Try.ntmps26
  go_wp2_with fail
  refine (index_nil 0 0 jb w rfl).mono ?_
  rintro e w' ⟨rfl, rfl⟩
  go_wp2_with fail
  go_ret
  exact ⟨rfl, rfl⟩

/-- DeleteFunc on a row of one's own. -/
theorem delete_row {w0 w : World} {jb : Nat} {ok : Nat → Prop} {v : Value} {l : List S33} {B : Nat} (job : Int) (hB : Below B w0 w) (hBw : B ≤ w.heap.size) (h : Kd.R k33 33 w B ok v l) (hj : w.cell? ⟨jb, 0, none⟩ = some (.int .i64 job)) (hjb : jb < B) (hl : l.length ≤ 1000000) :
    Calls Try.prog 26 #[v, .func (.func 28) #[] #[.pointer (some ⟨jb, 0, none⟩)]] w fun e w' => ∃ v', e = .returned v' ∧ Kd.R k33 33 w' B ok v' (keep job l) ∧ Below B w0 w' := by
  rcases raw_of h with ⟨rfl, rfl⟩ | ⟨g, cap, rfl, hg, hok, hr⟩
  · refine (delete_nil jb w).mono ?_
    rintro e w' ⟨rfl, rfl⟩
    exact ⟨_, rfl, Kd.R_nil _ _ _ _ _, hB⟩
  · refine (delete_calls job hB hBw hg hr hj (by omega) (by omega) hl).mono ?_
    rintro e w' ⟨rfl, r, b, _⟩
    exact ⟨_, rfl, of_raw r hg hok, b⟩

end Go.Proofs.Ytfneiocgjoalkaa.Rm
