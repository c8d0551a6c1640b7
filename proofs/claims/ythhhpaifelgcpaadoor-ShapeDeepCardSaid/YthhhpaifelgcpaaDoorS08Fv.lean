/- Whether there are few types, parts, names: the walks. -/
import Derived.Test.YthhhpaifelgcpaaDoorS08Sh2
set_option linter.all false
namespace Go.Abs.Fr
open Go Go.Abs Go.Proofs
set_option linter.unusedSimpArgs false
set_option maxRecDepth 100000

/-- spandrel/spandrelref08.Few -/
def ac7 : ACode := (.seq (.region [⟨(some 2), (.box (.tmp 0)), none⟩, ⟨(some 4), (.move (.const (.bool false))), none⟩]) (.seq (.region [⟨(some 5), (.load (some 15) (.tmp 2)), none⟩, ⟨(some 6), (.move (.tmp 1)), none⟩, ⟨(some 7), (.call (.func 18) [((.tmp 5), false), ((.tmp 6), false)]), none⟩, ⟨(some 8), (.bin .geq (.tmp 7) (.const (.int .i64 0))), none⟩, ⟨(some 4), (.move (.tmp 8)), none⟩]) .ret))
theorem c7 : cfn E0.P [] Tryd.f7 = some (ac7, [(.tmp 4)], 9) := by kernel_rfl
/-- spandrel/spandrelref08.FewValues -/
def ac10 : ACode := (.seq (.region [⟨(some 4), (.move (.const (.bool false))), none⟩]) (.seq (.region [⟨(some 5), (.move (.tmp 0)), none⟩, ⟨(some 6), (.move (.tmp 1)), none⟩, ⟨(some 7), (.call (.func 21) [((.tmp 5), false), ((.tmp 6), false)]), none⟩, ⟨(some 8), (.bin .geq (.tmp 7) (.const (.int .i64 0))), none⟩, ⟨(some 4), (.move (.tmp 8)), none⟩]) .ret))
theorem c10 : cfn E0.P [] Tryd.f10 = some (ac10, [(.tmp 4)], 9) := by kernel_rfl
/-- spandrel/spandrelref08.FewCon -/
def ac12 : ACode := (.seq (.region [⟨(some 2), (.box (.tmp 0)), none⟩, ⟨(some 4), (.move (.const (.bool false))), none⟩]) (.seq (.region [⟨(some 5), (.load (some 6) (.tmp 2)), none⟩, ⟨(some 6), (.move (.tmp 1)), none⟩, ⟨(some 7), (.call (.func 24) [((.tmp 5), false), ((.tmp 6), false)]), none⟩, ⟨(some 8), (.bin .geq (.tmp 7) (.const (.int .i64 0))), none⟩, ⟨(some 4), (.move (.tmp 8)), none⟩]) .ret))
theorem c12 : cfn E0.P [] Tryd.f12 = some (ac12, [(.tmp 4)], 9) := by kernel_rfl
/-- spandrel/spandrelref08.few -/
def ac18 : ACode := (.seq (.region [⟨(some 2), (.box (.tmp 0)), none⟩, ⟨(some 4), (.move (.const (.int .i64 0))), none⟩]) (.seq (.region [⟨(some 8), (.fieldAddr 2 (.tmp 2)), none⟩, ⟨(some 9), (.load (some 6) (.tmp 8)), none⟩, ⟨(some 10), (.move (.tmp 1)), none⟩, ⟨(some 11), (.bin .sub (.tmp 10) (.const (.int .i64 1))), none⟩, ⟨(some 12), (.fieldAddr 10 (.tmp 2)), none⟩, ⟨(some 13), (.load none (.tmp 12)), none⟩, ⟨(some 14), (.len false (.tmp 13)), none⟩, ⟨(some 15), (.bin .sub (.tmp 11) (.tmp 14)), none⟩, ⟨(some 16), (.fieldAddr 11 (.tmp 2)), none⟩, ⟨(some 17), (.load none (.tmp 16)), none⟩, ⟨(some 18), (.len false (.tmp 17)), none⟩, ⟨(some 19), (.bin .sub (.tmp 15) (.tmp 18)), none⟩, ⟨(some 20), (.call (.func 24) [((.tmp 9), false), ((.tmp 19), false)]), none⟩, ⟨(some 1), (.move (.tmp 20)), none⟩]) (.seq (.seq (.region [⟨(some 5), (.move (.const (.int .i64 0))), none⟩]) (.block 0 (.loop (.seq (.seq (.region [⟨(some 21), (.move (.tmp 5)), none⟩, ⟨(some 22), (.fieldAddr 12 (.tmp 2)), none⟩, ⟨(some 23), (.load none (.tmp 22)), none⟩, ⟨(some 24), (.len false (.tmp 23)), none⟩, ⟨(some 25), (.bin .lss (.tmp 21) (.tmp 24)), none⟩, ⟨(some 26), (.move (.tmp 25)), none⟩, ⟨(some 27), (.move (.tmp 1)), (some (26, true))⟩, ⟨(some 28), (.bin .geq (.tmp 27) (.const (.int .i64 0))), (some (26, true))⟩, ⟨(some 29), (.pick (.tmp 26) (.tmp 28) (.const (.bool false))), none⟩]) (.cond (.tmp 29) .skip (.exit 0))) (.seq (.block 1 (.draw [⟨(some 32), (.fieldAddr 12 (.tmp 2)), none⟩, ⟨(some 33), (.load none (.tmp 32)), none⟩, ⟨(some 34), (.move (.tmp 5)), none⟩, ⟨(some 35), (.indexAddr 18 (.tmp 33) (.tmp 34)), none⟩, ⟨(some 36), (.fieldAddr 1 (.tmp 35)), none⟩, ⟨(some 37), (.load (some 15) (.tmp 36)), none⟩, ⟨(some 38), (.fieldAddr 12 (.tmp 2)), none⟩, ⟨(some 39), (.load none (.tmp 38)), none⟩, ⟨(some 40), (.move (.tmp 5)), none⟩, ⟨(some 41), (.indexAddr 18 (.tmp 39) (.tmp 40)), none⟩, ⟨(some 42), (.fieldAddr 17 (.tmp 41)), none⟩, ⟨(some 43), (.load none (.tmp 42)), none⟩, ⟨(some 44), (.move (.tmp 1)), none⟩, ⟨(some 45), (.bin .sub (.tmp 44) (.const (.int .i64 1))), none⟩, ⟨(some 46), (.call (.func 21) [((.tmp 43), false), ((.tmp 45), false)]), none⟩, ⟨(some 47), (.call (.func 18) [((.tmp 37), false), ((.tmp 46), false)]), none⟩, ⟨(some 1), (.move (.tmp 47)), none⟩])) (.region [⟨(some 30), (.move (.tmp 5)), none⟩, ⟨(some 31), (.bin .add (.tmp 30) (.const (.int .i64 1))), none⟩, ⟨(some 5), (.move (.tmp 31)), none⟩])))))) (.seq (.seq (.region [⟨(some 6), (.move (.const (.int .i64 0))), none⟩]) (.block 2 (.loop (.seq (.seq (.region [⟨(some 48), (.move (.tmp 6)), none⟩, ⟨(some 49), (.fieldAddr 13 (.tmp 2)), none⟩, ⟨(some 50), (.load none (.tmp 49)), none⟩, ⟨(some 51), (.len false (.tmp 50)), none⟩, ⟨(some 52), (.bin .lss (.tmp 48) (.tmp 51)), none⟩, ⟨(some 53), (.move (.tmp 52)), none⟩, ⟨(some 54), (.move (.tmp 1)), (some (53, true))⟩, ⟨(some 55), (.bin .geq (.tmp 54) (.const (.int .i64 0))), (some (53, true))⟩, ⟨(some 56), (.pick (.tmp 53) (.tmp 55) (.const (.bool false))), none⟩]) (.cond (.tmp 56) .skip (.exit 2))) (.seq (.block 3 (.draw [⟨(some 59), (.fieldAddr 13 (.tmp 2)), none⟩, ⟨(some 60), (.load none (.tmp 59)), none⟩, ⟨(some 61), (.move (.tmp 6)), none⟩, ⟨(some 62), (.indexAddr 18 (.tmp 60) (.tmp 61)), none⟩, ⟨(some 63), (.fieldAddr 1 (.tmp 62)), none⟩, ⟨(some 64), (.load (some 15) (.tmp 63)), none⟩, ⟨(some 65), (.fieldAddr 13 (.tmp 2)), none⟩, ⟨(some 66), (.load none (.tmp 65)), none⟩, ⟨(some 67), (.move (.tmp 6)), none⟩, ⟨(some 68), (.indexAddr 18 (.tmp 66) (.tmp 67)), none⟩, ⟨(some 69), (.fieldAddr 17 (.tmp 68)), none⟩, ⟨(some 70), (.load none (.tmp 69)), none⟩, ⟨(some 71), (.move (.tmp 1)), none⟩, ⟨(some 72), (.bin .sub (.tmp 71) (.const (.int .i64 1))), none⟩, ⟨(some 73), (.call (.func 21) [((.tmp 70), false), ((.tmp 72), false)]), none⟩, ⟨(some 74), (.call (.func 18) [((.tmp 64), false), ((.tmp 73), false)]), none⟩, ⟨(some 1), (.move (.tmp 74)), none⟩])) (.region [⟨(some 57), (.move (.tmp 6)), none⟩, ⟨(some 58), (.bin .add (.tmp 57) (.const (.int .i64 1))), none⟩, ⟨(some 6), (.move (.tmp 58)), none⟩])))))) (.seq (.seq (.region [⟨(some 7), (.move (.const (.int .i64 0))), none⟩]) (.block 4 (.loop (.seq (.seq (.region [⟨(some 75), (.move (.tmp 7)), none⟩, ⟨(some 76), (.fieldAddr 14 (.tmp 2)), none⟩, ⟨(some 77), (.load none (.tmp 76)), none⟩, ⟨(some 78), (.len false (.tmp 77)), none⟩, ⟨(some 79), (.bin .lss (.tmp 75) (.tmp 78)), none⟩, ⟨(some 80), (.move (.tmp 79)), none⟩, ⟨(some 81), (.move (.tmp 1)), (some (80, true))⟩, ⟨(some 82), (.bin .geq (.tmp 81) (.const (.int .i64 0))), (some (80, true))⟩, ⟨(some 83), (.pick (.tmp 80) (.tmp 82) (.const (.bool false))), none⟩]) (.cond (.tmp 83) .skip (.exit 4))) (.seq (.block 5 (.region [⟨(some 86), (.fieldAddr 14 (.tmp 2)), none⟩, ⟨(some 87), (.load none (.tmp 86)), none⟩, ⟨(some 88), (.move (.tmp 7)), none⟩, ⟨(some 89), (.indexAddr 15 (.tmp 87) (.tmp 88)), none⟩, ⟨(some 90), (.load (some 15) (.tmp 89)), none⟩, ⟨(some 91), (.move (.tmp 1)), none⟩, ⟨(some 92), (.call (.func 18) [((.tmp 90), false), ((.tmp 91), false)]), none⟩, ⟨(some 1), (.move (.tmp 92)), none⟩])) (.region [⟨(some 84), (.move (.tmp 7)), none⟩, ⟨(some 85), (.bin .add (.tmp 84) (.const (.int .i64 1))), none⟩, ⟨(some 7), (.move (.tmp 85)), none⟩])))))) (.seq (.region [⟨(some 93), (.move (.tmp 1)), none⟩, ⟨(some 4), (.move (.tmp 93)), none⟩]) .ret))))))
theorem c18 : cfn E0.P [] Tryd.f18 = some (ac18, [(.tmp 4)], 94) := by kernel_rfl
/-- spandrel/spandrelref08.fewDefs -/
def ac21 : ACode := (.seq (.region [⟨(some 4), (.move (.const (.int .i64 0))), none⟩]) (.seq (.seq (.region [⟨(some 5), (.move (.const (.int .i64 0))), none⟩]) (.block 0 (.loop (.seq (.seq (.region [⟨(some 6), (.move (.tmp 5)), none⟩, ⟨(some 7), (.move (.tmp 0)), none⟩, ⟨(some 8), (.len false (.tmp 7)), none⟩, ⟨(some 9), (.bin .lss (.tmp 6) (.tmp 8)), none⟩, ⟨(some 10), (.move (.tmp 9)), none⟩, ⟨(some 11), (.move (.tmp 1)), (some (10, true))⟩, ⟨(some 12), (.bin .geq (.tmp 11) (.const (.int .i64 0))), (some (10, true))⟩, ⟨(some 13), (.pick (.tmp 10) (.tmp 12) (.const (.bool false))), none⟩]) (.cond (.tmp 13) .skip (.exit 0))) (.seq (.block 1 (.draw [⟨(some 16), (.move (.tmp 0)), none⟩, ⟨(some 17), (.move (.tmp 5)), none⟩, ⟨(some 18), (.indexAddr 5 (.tmp 16) (.tmp 17)), none⟩, ⟨(some 19), (.fieldAddr 4 (.tmp 18)), none⟩, ⟨(some 20), (.load none (.tmp 19)), none⟩, ⟨(some 21), (.move (.tmp 1)), none⟩, ⟨(some 22), (.bin .sub (.tmp 21) (.const (.int .i64 1))), none⟩, ⟨(some 23), (.move (.tmp 0)), none⟩, ⟨(some 24), (.move (.tmp 5)), none⟩, ⟨(some 25), (.indexAddr 5 (.tmp 23) (.tmp 24)), none⟩, ⟨(some 26), (.fieldAddr 3 (.tmp 25)), none⟩, ⟨(some 27), (.load none (.tmp 26)), none⟩, ⟨(some 28), (.len false (.tmp 27)), none⟩, ⟨(some 29), (.bin .sub (.tmp 22) (.tmp 28)), none⟩, ⟨(some 30), (.call (.func 21) [((.tmp 20), false), ((.tmp 29), false)]), none⟩, ⟨(some 1), (.move (.tmp 30)), none⟩])) (.region [⟨(some 14), (.move (.tmp 5)), none⟩, ⟨(some 15), (.bin .add (.tmp 14) (.const (.int .i64 1))), none⟩, ⟨(some 5), (.move (.tmp 15)), none⟩])))))) (.seq (.region [⟨(some 31), (.move (.tmp 1)), none⟩, ⟨(some 4), (.move (.tmp 31)), none⟩]) .ret)))
theorem c21 : cfn E0.P [] Tryd.f21 = some (ac21, [(.tmp 4)], 32) := by kernel_rfl
/-- spandrel/spandrelref08.fewCon -/
def ac24 : ACode := (.seq (.region [⟨(some 2), (.box (.tmp 0)), none⟩, ⟨(some 4), (.move (.const (.int .i64 0))), none⟩]) (.seq (.region [⟨(some 6), (.move (.tmp 1)), none⟩, ⟨(some 7), (.bin .sub (.tmp 6) (.const (.int .i64 1))), none⟩, ⟨(some 1), (.move (.tmp 7)), none⟩]) (.seq (.seq (.region [⟨(some 5), (.move (.const (.int .i64 0))), none⟩]) (.block 0 (.loop (.seq (.seq (.region [⟨(some 8), (.move (.tmp 5)), none⟩, ⟨(some 9), (.fieldAddr 5 (.tmp 2)), none⟩, ⟨(some 10), (.load none (.tmp 9)), none⟩, ⟨(some 11), (.len false (.tmp 10)), none⟩, ⟨(some 12), (.bin .lss (.tmp 8) (.tmp 11)), none⟩, ⟨(some 13), (.move (.tmp 12)), none⟩, ⟨(some 14), (.move (.tmp 1)), (some (13, true))⟩, ⟨(some 15), (.bin .geq (.tmp 14) (.const (.int .i64 0))), (some (13, true))⟩, ⟨(some 16), (.pick (.tmp 13) (.tmp 15) (.const (.bool false))), none⟩]) (.cond (.tmp 16) .skip (.exit 0))) (.seq (.block 1 (.region [⟨(some 19), (.fieldAddr 5 (.tmp 2)), none⟩, ⟨(some 20), (.load none (.tmp 19)), none⟩, ⟨(some 21), (.move (.tmp 5)), none⟩, ⟨(some 22), (.indexAddr 6 (.tmp 20) (.tmp 21)), none⟩, ⟨(some 23), (.load (some 6) (.tmp 22)), none⟩, ⟨(some 24), (.move (.tmp 1)), none⟩, ⟨(some 25), (.call (.func 24) [((.tmp 23), false), ((.tmp 24), false)]), none⟩, ⟨(some 1), (.move (.tmp 25)), none⟩])) (.region [⟨(some 17), (.move (.tmp 5)), none⟩, ⟨(some 18), (.bin .add (.tmp 17) (.const (.int .i64 1))), none⟩, ⟨(some 5), (.move (.tmp 18)), none⟩])))))) (.seq (.region [⟨(some 26), (.move (.tmp 1)), none⟩, ⟨(some 4), (.move (.tmp 26)), none⟩]) .ret))))
theorem c24 : cfn E0.P [] Tryd.f24 = some (ac24, [(.tmp 4)], 27) := by kernel_rfl

theorem rfewCon_ev : ∀ (k : Nat) (c : Con), szC c ≤ k → mxC c ≤ 2 ^ 48 → ∀ (n : Int), -(2 : Int) ^ 51 ≤ n → n ≤ 2 ^ 60 → ∀ h, EvR E0 24 [conv c, i64 n] h (i64 (fewC c n)) := by
  intro k
  induction k using Nat.strongRecOn with
  | _ k ih =>
    intro c hk hm n hn hn2 h
    refine ev_of (fn := Tryd.f24) (hs := []) Tryd.func24 c24 (by simp) fun hcl => ?_
    have hmx := mxC_eq c
    have hsz := szC_eq c
    have hlen := mxCs_len c.l
    have w1 : IntKind.i64.wrap (n - 1) = n - 1 := by rw [wrap_i64] <;> omega
    rw [fewC_eq]
    generalize hR : fewCs c.l (n - 1) = R
    simp only [ac24, conv_eq, w1, aw20, List.take_succ_cons, List.take_zero, List.drop_zero, List.drop_succ_cons, List.length_map, ↓awD, awP, Nat.reduceLeDiff, Nat.reduceEqDiff, Nat.reduceAdd, Nat.zero_add, Int.cast_ofNat_Int, Int.reduceLT, Int.reduceLE, Int.reduceEq]
    refine LoopF.list c.l (by omega) (γ := Int) (fun i g => ⟨[(1, i64 g), (2, .ref h.length 0), (5, i64 i)], h ++ [AObj.cells [i64 c.op, i64 c.lo, i64 c.hi, boolv c.low, boolv c.high, conl c.l]]⟩)
      (fun i g => (-(2 : Int) ^ 51 - 1 ≤ g ∧ g ≤ 2 ^ 60) ∧ fewCs (c.l.drop i) g = R) (n - 1) ⟨⟨by omega, by omega⟩, by simpa using hR⟩ (weak_of (by simp) (by simp [look])) ?_ ?_
    · rintro i a g ha ⟨hg, hv⟩ hi e1 w3
      rw [drop_get ha] at hv
      have hga := map_get conv c.l i a ha
      have hma := mxCs_mem (List.mem_of_getElem? ha)
      have hza := szCs_mem (List.mem_of_getElem? ha)
      simp only [e1, aw20, List.take_succ_cons, List.take_zero, List.drop_zero, List.drop_succ_cons, List.length_map, ↓awD, awP, Nat.reduceLeDiff, Nat.reduceEqDiff, Nat.reduceAdd, Nat.zero_add, Int.cast_ofNat_Int, Int.reduceLT, Int.reduceLE, Int.reduceEq]
      by_cases h0 : 0 ≤ g
      · have hb := fewC_b a g (by omega)
        have hca := fun h => ih (szC a) (by omega) a (Nat.le_refl _) (by omega) g (by omega) (by omega) h
        simp only [conv_eq] at hca
        rw [fewCs, if_pos h0] at hv
        have d0 : decide (0 ≤ g) = true := by rw [decide_eq_true_eq]; exact h0
        simp only [d0, aw20, List.take_succ_cons, List.take_zero, List.drop_zero, List.drop_succ_cons, List.length_map, ↓awD, awP, Nat.reduceLeDiff, Nat.reduceEqDiff, Nat.reduceAdd, Nat.zero_add, Int.cast_ofNat_Int, Int.reduceLT, Int.reduceLE, Int.reduceEq]
        repeat' (first | ((first | refine Need.mk (by first | (first | omega | (simp only [decide_eq_true_eq, decide_eq_false_iff_not, Bool.and_eq_true, Bool.not_eq_true', Bool.not_eq_false', List.length_map] at *; omega) | (simp; omega)) | (constructor <;> (first | omega | (simp only [decide_eq_true_eq, decide_eq_false_iff_not, Bool.and_eq_true, Bool.not_eq_true', Bool.not_eq_false', List.length_map] at *; omega) | (simp; omega)))) (Elem.recs hga (by first | (rw [conv_eq]; exact ⟨rfl, rfl⟩) | exact ⟨rfl, rfl⟩) ?_) | refine Elem.recs hga (by first | (rw [conv_eq]; exact ⟨rfl, rfl⟩) | exact ⟨rfl, rfl⟩) ?_); simp only [conv_eq, aw21, aw21, aw20, List.take_succ_cons, List.take_zero, List.drop_zero, List.drop_succ_cons, List.length_map, ↓awD, awP, Nat.reduceLeDiff, Nat.reduceEqDiff, Nat.reduceAdd, Nat.zero_add, Int.cast_ofNat_Int, Int.reduceLT, Int.reduceLE, Int.reduceEq]) | ((first | refine EvF.ret (hca _) ?_ | refine EvRF.ret (hca _) ?_); simp only [w3, aw21, aw20, List.take_succ_cons, List.take_zero, List.drop_zero, List.drop_succ_cons, List.length_map, ↓awD, awP, Nat.reduceLeDiff, Nat.reduceEqDiff, Nat.reduceAdd, Nat.zero_add, Int.cast_ofNat_Int, Int.reduceLT, Int.reduceLE, Int.reduceEq]))
        exact ⟨(i + 1, fewC a g), ⟨hi, ⟨⟨by omega, by omega⟩, hv⟩⟩, by simp only; omega, weak_of (rfl) (by simp [look])⟩
      · rw [fewCs, if_neg h0] at hv
        subst hv
        have d0 : decide (0 ≤ g) = false := by rw [decide_eq_false_iff_not]; exact h0
        simp only [d0, aw20, List.take_succ_cons, List.take_zero, List.drop_zero, List.drop_succ_cons, List.length_map, ↓awD, awP, Nat.reduceLeDiff, Nat.reduceEqDiff, Nat.reduceAdd, Nat.zero_add, Int.cast_ofNat_Int, Int.reduceLT, Int.reduceLE, Int.reduceEq]
        exact Fin.end hcl rfl (by first | rfl | exact (List.append_nil _).symm | (simp only [List.append_assoc]; rfl)) ⟨rfl, rfl⟩
    · rintro g ⟨_, hv⟩ e1
      rw [drop_len] at hv
      simp only [fewCs] at hv
      subst hv
      simp only [e1, aw20, List.take_succ_cons, List.take_zero, List.drop_zero, List.drop_succ_cons, List.length_map, ↓awD, awP, Nat.reduceLeDiff, Nat.reduceEqDiff, Nat.reduceAdd, Nat.zero_add, Int.cast_ofNat_Int, Int.reduceLT, Int.reduceLE, Int.reduceEq]
      exact Fin.end hcl rfl (by first | rfl | exact (List.append_nil _).symm | (simp only [List.append_assoc]; rfl)) ⟨rfl, rfl⟩

theorem rfewDefs_ev : ∀ (k : Nat) (l : List Val), szVs l ≤ k → mxVs l ≤ 2 ^ 48 → ∀ (n : Int), -(2 : Int) ^ 49 ≤ n → n ≤ 2 ^ 60 → ∀ h, EvR E0 21 [vall l, i64 n] h (i64 (fewVs l n)) := by
  intro k
  induction k using Nat.strongRecOn with
  | _ k ih =>
    intro l hk hm n hn hn2 h
    refine ev_of (fn := Tryd.f21) (hs := []) Tryd.func21 c21 (by simp) fun hcl => ?_
    have hlen := mxVs_len l
    generalize hR : fewVs l n = R
    simp only [ac21, aw20, List.take_succ_cons, List.take_zero, List.drop_zero, List.drop_succ_cons, List.length_map, ↓awD, awP, Nat.reduceLeDiff, Nat.reduceEqDiff, Nat.reduceAdd, Nat.zero_add, Int.cast_ofNat_Int, Int.reduceLT, Int.reduceLE, Int.reduceEq]
    refine LoopF.list l (by omega) (γ := Int) (fun i g => ⟨[(0, vall l), (1, i64 g), (5, i64 i)], h⟩)
      (fun i g => (-(2 : Int) ^ 49 ≤ g ∧ g ≤ 2 ^ 60) ∧ fewVs (l.drop i) g = R) n ⟨⟨by omega, by omega⟩, by simpa using hR⟩ (weak_of (by simp) (by simp [look])) ?_ ?_
    · rintro i a g ha ⟨hg, hv⟩ hi e1 w3
      rw [drop_get ha] at hv
      have hga := map_get valv l i a ha
      have hma := mxVs_mem (List.mem_of_getElem? ha)
      have hza := szVs_mem (List.mem_of_getElem? ha)
      have hmx := mxV_le a
      have hzx := szV_eq a
      have hln := mxB_len a.names
      simp only [e1, aw20, List.take_succ_cons, List.take_zero, List.drop_zero, List.drop_succ_cons, List.length_map, ↓awD, awP, Nat.reduceLeDiff, Nat.reduceEqDiff, Nat.reduceAdd, Nat.zero_add, Int.cast_ofNat_Int, Int.reduceLT, Int.reduceLE, Int.reduceEq]
      by_cases h0 : 0 ≤ g
      · have hb := fewV_b a g (by omega) h0
        have hca := fun h => ih (szVs a.l) (by omega) a.l (Nat.le_refl _) (by omega) (g - 1 - a.names.length) (by omega) (by omega) h
        have w1 : IntKind.i64.wrap (g - 1) = g - 1 := by rw [wrap_i64] <;> omega
        have w2 : IntKind.i64.wrap (g - 1 - a.names.length) = g - 1 - a.names.length := by rw [wrap_i64] <;> omega
        rw [fewVs, if_pos h0] at hv
        rw [fewV_eq] at hv hb
        have d0 : decide (0 ≤ g) = true := by rw [decide_eq_true_eq]; exact h0
        simp only [d0, aw20, List.take_succ_cons, List.take_zero, List.drop_zero, List.drop_succ_cons, List.length_map, ↓awD, awP, Nat.reduceLeDiff, Nat.reduceEqDiff, Nat.reduceAdd, Nat.zero_add, Int.cast_ofNat_Int, Int.reduceLT, Int.reduceLE, Int.reduceEq]
        repeat' (first | ((first | refine Need.mk (by first | (first | omega | (simp only [decide_eq_true_eq, decide_eq_false_iff_not, Bool.and_eq_true, Bool.not_eq_true', Bool.not_eq_false', List.length_map] at *; omega) | (simp; omega)) | (constructor <;> (first | omega | (simp only [decide_eq_true_eq, decide_eq_false_iff_not, Bool.and_eq_true, Bool.not_eq_true', Bool.not_eq_false', List.length_map] at *; omega) | (simp; omega)))) (Elem.recs hga (by first | (rw [valv_eq]; exact ⟨rfl, rfl⟩) | exact ⟨rfl, rfl⟩) ?_) | refine Elem.recs hga (by first | (rw [valv_eq]; exact ⟨rfl, rfl⟩) | exact ⟨rfl, rfl⟩) ?_); simp only [valv_eq, w1, w2, aw21, aw20, List.take_succ_cons, List.take_zero, List.drop_zero, List.drop_succ_cons, List.length_map, ↓awD, awP, Nat.reduceLeDiff, Nat.reduceEqDiff, Nat.reduceAdd, Nat.zero_add, Int.cast_ofNat_Int, Int.reduceLT, Int.reduceLE, Int.reduceEq]) | ((first | refine EvF.ret (hca _) ?_ | refine EvRF.ret (hca _) ?_); simp only [w3, aw21, aw20, List.take_succ_cons, List.take_zero, List.drop_zero, List.drop_succ_cons, List.length_map, ↓awD, awP, Nat.reduceLeDiff, Nat.reduceEqDiff, Nat.reduceAdd, Nat.zero_add, Int.cast_ofNat_Int, Int.reduceLT, Int.reduceLE, Int.reduceEq]))
        exact ⟨(i + 1, fewVs a.l (g - 1 - a.names.length)), ⟨hi, ⟨⟨by omega, by omega⟩, hv⟩⟩, by simp only; omega, weak_of (rfl) (by simp [look])⟩
      · rw [fewVs, if_neg h0] at hv
        subst hv
        have d0 : decide (0 ≤ g) = false := by rw [decide_eq_false_iff_not]; exact h0
        simp only [d0, aw20, List.take_succ_cons, List.take_zero, List.drop_zero, List.drop_succ_cons, List.length_map, ↓awD, awP, Nat.reduceLeDiff, Nat.reduceEqDiff, Nat.reduceAdd, Nat.zero_add, Int.cast_ofNat_Int, Int.reduceLT, Int.reduceLE, Int.reduceEq]
        exact Fin.end hcl rfl (by first | rfl | exact (List.append_nil _).symm | (simp only [List.append_assoc]; rfl)) ⟨rfl, rfl⟩
    · rintro g ⟨_, hv⟩ e1
      rw [drop_len] at hv
      simp only [fewVs] at hv
      subst hv
      simp only [e1, aw20, List.take_succ_cons, List.take_zero, List.drop_zero, List.drop_succ_cons, List.length_map, ↓awD, awP, Nat.reduceLeDiff, Nat.reduceEqDiff, Nat.reduceAdd, Nat.zero_add, Int.cast_ofNat_Int, Int.reduceLT, Int.reduceLE, Int.reduceEq]
      exact Fin.end hcl rfl (by first | rfl | exact (List.append_nil _).symm | (simp only [List.append_assoc]; rfl)) ⟨rfl, rfl⟩

set_option maxHeartbeats 2000000 in
theorem rfew_ev : ∀ (k : Nat) (t : Ty), szT t ≤ k → mxT t ≤ 2 ^ 48 → ∀ (n : Int), -(2 : Int) ^ 49 ≤ n → n ≤ 2 ^ 60 → ∀ h, EvR E0 18 [tyv t, i64 n] h (i64 (fewT t n)) := by
  intro k
  induction k using Nat.strongRecOn with
  | _ k ih =>
    intro t hk hm n hn hn2 h
    refine ev_of (fn := Tryd.f18) (hs := []) Tryd.func18 c18 (by simp) fun hcl => ?_
    have hmx := mxT_le t
    have hsz := szT_eq t
    have hl1 := mxB_len t.names
    have hl2 := mxB_len t.more
    have hP1 := mxPs_len t.parts
    have hP2 := mxPs_len t.adds
    have hT := mxTs_len t.elem
    have w1 : IntKind.i64.wrap (n - 1) = n - 1 := by rw [wrap_i64] <;> omega
    have w2 : IntKind.i64.wrap (n - 1 - t.names.length) = n - 1 - t.names.length := by rw [wrap_i64] <;> omega
    have w4 : IntKind.i64.wrap (n - 1 - t.names.length - t.more.length) = n - 1 - t.names.length - t.more.length := by rw [wrap_i64] <;> omega
    have hcon := fun h => rfewCon_ev _ t.con (Nat.le_refl _) (by omega) (n - 1 - t.names.length - t.more.length) (by omega) (by omega) h
    have hcb := fewC_b t.con (n - 1 - t.names.length - t.more.length) (by omega)
    simp only [conv_eq] at hcon
    rw [fewT_eq]
    generalize hT0 : AObj.cells [AV.lit (Value.int IntKind.i64 t.kind), AV.lit (Value.string t.name), AV.lit (Value.int IntKind.i64 t.con.op), AV.lit (Value.int IntKind.i64 t.con.lo), AV.lit (Value.int IntKind.i64 t.con.hi), AV.lit (Value.bool t.con.low), AV.lit (Value.bool t.con.high),
      conl t.con.l, AV.lit (Value.bool t.ext), AV.lit (Value.string t.frm), strl t.names, strl t.more, prtl t.parts, prtl t.adds, tyl t.elem] = T
    have hmo : ∀ K t', mObj (some T) K t' = K [AV.lit (Value.int IntKind.i64 t.kind), AV.lit (Value.string t.name), AV.lit (Value.int IntKind.i64 t.con.op), AV.lit (Value.int IntKind.i64 t.con.lo), AV.lit (Value.int IntKind.i64 t.con.hi), AV.lit (Value.bool t.con.low), AV.lit (Value.bool t.con.high),
        conl t.con.l, AV.lit (Value.bool t.ext), AV.lit (Value.string t.frm), strl t.names, strl t.more, prtl t.parts, prtl t.adds, tyl t.elem] := fun K t' => by rw [← hT0]; rfl
    simp only [ac18, tyv_eq, hT0, hmo, w1, w2, w4, aw20, List.take_succ_cons, List.take_zero, List.drop_zero, List.drop_succ_cons, List.length_map, ↓awD, awP, Nat.reduceLeDiff, Nat.reduceEqDiff, Nat.reduceAdd, Nat.zero_add, Int.cast_ofNat_Int, Int.reduceLT, Int.reduceLE, Int.reduceEq]
    ((first | refine EvF.ret (hcon _) ?_ | refine EvRF.ret (hcon _) ?_); simp only [hmo, aw21, aw20, List.take_succ_cons, List.take_zero, List.drop_zero, List.drop_succ_cons, List.length_map, ↓awD, awP, Nat.reduceLeDiff, Nat.reduceEqDiff, Nat.reduceAdd, Nat.zero_add, Int.cast_ofNat_Int, Int.reduceLT, Int.reduceLE, Int.reduceEq])
    generalize fewC t.con (n - 1 - t.names.length - t.more.length) = g0 at hcb
    have hcell : ∀ tm : List (Nat × AV), (⟨tm, h ++ [T]⟩ : ASt).heap = h ++ [T] := fun _ => rfl
    refine LoopF.cut 0 (fun σ => σ.heap = h ++ [T] ∧ look σ.tmps 1 = i64 (fewPs t.parts g0) ∧ look σ.tmps 2 = .ref h.length 0) ?_ ?_
    · intro Q' hx _ _
      generalize hR : fewPs t.parts g0 = R at hx
      refine LoopF.list t.parts (by omega) (γ := Int) (fun i g => ⟨[(1, i64 g), (2, .ref h.length 0), (5, i64 i)], h ++ [T]⟩)
        (fun i g => (-(2 : Int) ^ 52 ≤ g ∧ g ≤ 2 ^ 60) ∧ fewPs (t.parts.drop i) g = R) g0 ⟨⟨by omega, by omega⟩, by simpa using hR⟩ (weak_of (by simp) (by simp [look, *])) ?_ ?_
      · rintro i a g ha ⟨hg, hv⟩ hi e1 w3
        rw [drop_get ha] at hv
        have hga := map_get prtv t.parts i a ha
        have hma := mxPs_mem (List.mem_of_getElem? ha)
        have hza := szPs_mem (List.mem_of_getElem? ha)
        have hpm := mxP_le a
        have hpz := szP_eq a
        simp only [e1, hmo, aw20, List.take_succ_cons, List.take_zero, List.drop_zero, List.drop_succ_cons, List.length_map, ↓awD, awP, Nat.reduceLeDiff, Nat.reduceEqDiff, Nat.reduceAdd, Nat.zero_add, Int.cast_ofNat_Int, Int.reduceLT, Int.reduceLE, Int.reduceEq]
        by_cases h0 : 0 ≤ g
        · have hb := fewP_b a g (by omega) h0
          have v1 : IntKind.i64.wrap (g - 1) = g - 1 := by rw [wrap_i64] <;> omega
          have hvb := fewVs_b a.dfl (g - 1) (by omega) (by omega)
          have hcd := fun h => rfewDefs_ev _ a.dfl (Nat.le_refl _) (by omega) (g - 1) (by omega) (by omega) h
          have hct := fun h => ih (szT a.t) (by omega) a.t (Nat.le_refl _) (by omega) (fewVs a.dfl (g - 1)) (by omega) (by omega) h
          simp only [tyv_eq] at hct
          rw [fewPs, if_pos h0, fewP_eq] at hv
          rw [fewP_eq] at hb
          have d0 : decide (0 ≤ g) = true := by rw [decide_eq_true_eq]; exact h0
          simp only [d0, hmo, aw20, List.take_succ_cons, List.take_zero, List.drop_zero, List.drop_succ_cons, List.length_map, ↓awD, awP, Nat.reduceLeDiff, Nat.reduceEqDiff, Nat.reduceAdd, Nat.zero_add, Int.cast_ofNat_Int, Int.reduceLT, Int.reduceLE, Int.reduceEq]
          repeat' (first | ((first | refine Need.mk (by first | (first | omega | (simp only [decide_eq_true_eq, decide_eq_false_iff_not, Bool.and_eq_true, Bool.not_eq_true', Bool.not_eq_false', List.length_map] at *; omega) | (simp; omega)) | (constructor <;> (first | omega | (simp only [decide_eq_true_eq, decide_eq_false_iff_not, Bool.and_eq_true, Bool.not_eq_true', Bool.not_eq_false', List.length_map] at *; omega) | (simp; omega)))) (Elem.recs hga (by first | (rw [prtv_eq]; exact ⟨rfl, rfl⟩) | exact ⟨rfl, rfl⟩) ?_) | refine Elem.recs hga (by first | (rw [prtv_eq]; exact ⟨rfl, rfl⟩) | exact ⟨rfl, rfl⟩) ?_); simp only [prtv_eq, hmo, v1, aw21, aw20, List.take_succ_cons, List.take_zero, List.drop_zero, List.drop_succ_cons, List.length_map, ↓awD, awP, Nat.reduceLeDiff, Nat.reduceEqDiff, Nat.reduceAdd, Nat.zero_add, Int.cast_ofNat_Int, Int.reduceLT, Int.reduceLE, Int.reduceEq]) | ((first | refine EvF.ret (hcd _) ?_ | refine EvRF.ret (hcd _) ?_); simp only [hmo, aw21, aw20, List.take_succ_cons, List.take_zero, List.drop_zero, List.drop_succ_cons, List.length_map, ↓awD, awP, Nat.reduceLeDiff, Nat.reduceEqDiff, Nat.reduceAdd, Nat.zero_add, Int.cast_ofNat_Int, Int.reduceLT, Int.reduceLE, Int.reduceEq]) | ((first | refine EvF.ret (hct _) ?_ | refine EvRF.ret (hct _) ?_); simp only [hmo, w3, aw21, aw20, List.take_succ_cons, List.take_zero, List.drop_zero, List.drop_succ_cons, List.length_map, ↓awD, awP, Nat.reduceLeDiff, Nat.reduceEqDiff, Nat.reduceAdd, Nat.zero_add, Int.cast_ofNat_Int, Int.reduceLT, Int.reduceLE, Int.reduceEq]))
          exact ⟨(i + 1, fewT a.t (fewVs a.dfl (g - 1))), ⟨hi, ⟨⟨by omega, by omega⟩, hv⟩⟩, by simp only; omega, weak_of (rfl) (by simp [look])⟩
        · rw [fewPs, if_neg h0] at hv
          subst hv
          have d0 : decide (0 ≤ g) = false := by rw [decide_eq_false_iff_not]; exact h0
          simp only [d0, aw20, List.take_succ_cons, List.take_zero, List.drop_zero, List.drop_succ_cons, List.length_map, ↓awD, awP, Nat.reduceLeDiff, Nat.reduceEqDiff, Nat.reduceAdd, Nat.zero_add, Int.cast_ofNat_Int, Int.reduceLT, Int.reduceLE, Int.reduceEq]
          exact hx _ ⟨rfl, by simp [look], by simp [look]⟩
      · rintro g ⟨_, hv⟩ e1
        rw [drop_len] at hv
        simp only [fewPs] at hv
        subst hv
        simp only [e1, hmo, aw20, List.take_succ_cons, List.take_zero, List.drop_zero, List.drop_succ_cons, List.length_map, ↓awD, awP, Nat.reduceLeDiff, Nat.reduceEqDiff, Nat.reduceAdd, Nat.zero_add, Int.cast_ofNat_Int, Int.reduceLT, Int.reduceLE, Int.reduceEq]
        exact hx _ ⟨rfl, by simp [look], by simp [look]⟩
    have hpb5 := fewPs_b t.parts g0 (by omega) (by omega)
    generalize fewPs t.parts g0 = g5 at hpb5 ⊢
    rintro ⟨tm, hp⟩ ⟨h0, k1, k2⟩
    simp only at h0 k1 k2
    subst h0
    simp only [k1, k2, hmo, aw20, List.take_succ_cons, List.take_zero, List.drop_zero, List.drop_succ_cons, List.length_map, ↓awD, awP, Nat.reduceLeDiff, Nat.reduceEqDiff, Nat.reduceAdd, Nat.zero_add, Int.cast_ofNat_Int, Int.reduceLT, Int.reduceLE, Int.reduceEq]
    refine LoopF.cut 2 (fun σ => σ.heap = h ++ [T] ∧ look σ.tmps 1 = i64 (fewPs t.adds g5) ∧ look σ.tmps 2 = .ref h.length 0) ?_ ?_
    · intro Q' hx _ _
      generalize hR : fewPs t.adds g5 = R at hx
      refine LoopF.list t.adds (by omega) (γ := Int) (fun i g => ⟨[(1, i64 g), (2, .ref h.length 0), (6, i64 i)], h ++ [T]⟩)
        (fun i g => (-(2 : Int) ^ 52 ≤ g ∧ g ≤ 2 ^ 60) ∧ fewPs (t.adds.drop i) g = R) g5 ⟨⟨by omega, by omega⟩, by simpa using hR⟩ (weak_of (by simp) (by simp [look, *])) ?_ ?_
      · rintro i a g ha ⟨hg, hv⟩ hi e1 w3
        rw [drop_get ha] at hv
        have hga := map_get prtv t.adds i a ha
        have hma := mxPs_mem (List.mem_of_getElem? ha)
        have hza := szPs_mem (List.mem_of_getElem? ha)
        have hpm := mxP_le a
        have hpz := szP_eq a
        simp only [e1, hmo, aw20, List.take_succ_cons, List.take_zero, List.drop_zero, List.drop_succ_cons, List.length_map, ↓awD, awP, Nat.reduceLeDiff, Nat.reduceEqDiff, Nat.reduceAdd, Nat.zero_add, Int.cast_ofNat_Int, Int.reduceLT, Int.reduceLE, Int.reduceEq]
        by_cases h0 : 0 ≤ g
        · have hb := fewP_b a g (by omega) h0
          have v1 : IntKind.i64.wrap (g - 1) = g - 1 := by rw [wrap_i64] <;> omega
          have hvb := fewVs_b a.dfl (g - 1) (by omega) (by omega)
          have hcd := fun h => rfewDefs_ev _ a.dfl (Nat.le_refl _) (by omega) (g - 1) (by omega) (by omega) h
          have hct := fun h => ih (szT a.t) (by omega) a.t (Nat.le_refl _) (by omega) (fewVs a.dfl (g - 1)) (by omega) (by omega) h
          simp only [tyv_eq] at hct
          rw [fewPs, if_pos h0, fewP_eq] at hv
          rw [fewP_eq] at hb
          have d0 : decide (0 ≤ g) = true := by rw [decide_eq_true_eq]; exact h0
          simp only [d0, hmo, aw20, List.take_succ_cons, List.take_zero, List.drop_zero, List.drop_succ_cons, List.length_map, ↓awD, awP, Nat.reduceLeDiff, Nat.reduceEqDiff, Nat.reduceAdd, Nat.zero_add, Int.cast_ofNat_Int, Int.reduceLT, Int.reduceLE, Int.reduceEq]
          repeat' (first | ((first | refine Need.mk (by first | (first | omega | (simp only [decide_eq_true_eq, decide_eq_false_iff_not, Bool.and_eq_true, Bool.not_eq_true', Bool.not_eq_false', List.length_map] at *; omega) | (simp; omega)) | (constructor <;> (first | omega | (simp only [decide_eq_true_eq, decide_eq_false_iff_not, Bool.and_eq_true, Bool.not_eq_true', Bool.not_eq_false', List.length_map] at *; omega) | (simp; omega)))) (Elem.recs hga (by first | (rw [prtv_eq]; exact ⟨rfl, rfl⟩) | exact ⟨rfl, rfl⟩) ?_) | refine Elem.recs hga (by first | (rw [prtv_eq]; exact ⟨rfl, rfl⟩) | exact ⟨rfl, rfl⟩) ?_); simp only [prtv_eq, hmo, v1, aw21, aw20, List.take_succ_cons, List.take_zero, List.drop_zero, List.drop_succ_cons, List.length_map, ↓awD, awP, Nat.reduceLeDiff, Nat.reduceEqDiff, Nat.reduceAdd, Nat.zero_add, Int.cast_ofNat_Int, Int.reduceLT, Int.reduceLE, Int.reduceEq]) | ((first | refine EvF.ret (hcd _) ?_ | refine EvRF.ret (hcd _) ?_); simp only [hmo, aw21, aw20, List.take_succ_cons, List.take_zero, List.drop_zero, List.drop_succ_cons, List.length_map, ↓awD, awP, Nat.reduceLeDiff, Nat.reduceEqDiff, Nat.reduceAdd, Nat.zero_add, Int.cast_ofNat_Int, Int.reduceLT, Int.reduceLE, Int.reduceEq]) | ((first | refine EvF.ret (hct _) ?_ | refine EvRF.ret (hct _) ?_); simp only [hmo, w3, aw21, aw20, List.take_succ_cons, List.take_zero, List.drop_zero, List.drop_succ_cons, List.length_map, ↓awD, awP, Nat.reduceLeDiff, Nat.reduceEqDiff, Nat.reduceAdd, Nat.zero_add, Int.cast_ofNat_Int, Int.reduceLT, Int.reduceLE, Int.reduceEq]))
          exact ⟨(i + 1, fewT a.t (fewVs a.dfl (g - 1))), ⟨hi, ⟨⟨by omega, by omega⟩, hv⟩⟩, by simp only; omega, weak_of (rfl) (by simp [look])⟩
        · rw [fewPs, if_neg h0] at hv
          subst hv
          have d0 : decide (0 ≤ g) = false := by rw [decide_eq_false_iff_not]; exact h0
          simp only [d0, aw20, List.take_succ_cons, List.take_zero, List.drop_zero, List.drop_succ_cons, List.length_map, ↓awD, awP, Nat.reduceLeDiff, Nat.reduceEqDiff, Nat.reduceAdd, Nat.zero_add, Int.cast_ofNat_Int, Int.reduceLT, Int.reduceLE, Int.reduceEq]
          exact hx _ ⟨rfl, by simp [look], by simp [look]⟩
      · rintro g ⟨_, hv⟩ e1
        rw [drop_len] at hv
        simp only [fewPs] at hv
        subst hv
        simp only [e1, hmo, aw20, List.take_succ_cons, List.take_zero, List.drop_zero, List.drop_succ_cons, List.length_map, ↓awD, awP, Nat.reduceLeDiff, Nat.reduceEqDiff, Nat.reduceAdd, Nat.zero_add, Int.cast_ofNat_Int, Int.reduceLT, Int.reduceLE, Int.reduceEq]
        exact hx _ ⟨rfl, by simp [look], by simp [look]⟩
    have hpb6 := fewPs_b t.adds g5 (by omega) (by omega)
    generalize fewPs t.adds g5 = g6 at hpb6 ⊢
    rintro ⟨tm, hp⟩ ⟨h0, k1, k2⟩
    simp only at h0 k1 k2
    subst h0
    simp only [k1, k2, hmo, aw20, List.take_succ_cons, List.take_zero, List.drop_zero, List.drop_succ_cons, List.length_map, ↓awD, awP, Nat.reduceLeDiff, Nat.reduceEqDiff, Nat.reduceAdd, Nat.zero_add, Int.cast_ofNat_Int, Int.reduceLT, Int.reduceLE, Int.reduceEq]
    refine LoopF.cut 4 (fun σ => σ.heap = h ++ [T] ∧ look σ.tmps 1 = i64 (fewTs t.elem g6) ∧ look σ.tmps 2 = .ref h.length 0) ?_ ?_
    · intro Q' hx _ _
      generalize hR : fewTs t.elem g6 = R at hx
      refine LoopF.list t.elem (by omega) (γ := Int) (fun i g => ⟨[(1, i64 g), (2, .ref h.length 0), (7, i64 i)], h ++ [T]⟩)
        (fun i g => (-(2 : Int) ^ 52 ≤ g ∧ g ≤ 2 ^ 60) ∧ fewTs (t.elem.drop i) g = R) g6 ⟨⟨by omega, by omega⟩, by simpa using hR⟩ (weak_of (by simp) (by simp [look, *])) ?_ ?_
      · rintro i a g ha ⟨hg, hv⟩ hi e1 w3
        rw [drop_get ha] at hv
        have hga := map_get tyv t.elem i a ha
        have hma := mxTs_mem (List.mem_of_getElem? ha)
        have hza := szTs_mem (List.mem_of_getElem? ha)
        simp only [e1, hmo, aw20, List.take_succ_cons, List.take_zero, List.drop_zero, List.drop_succ_cons, List.length_map, ↓awD, awP, Nat.reduceLeDiff, Nat.reduceEqDiff, Nat.reduceAdd, Nat.zero_add, Int.cast_ofNat_Int, Int.reduceLT, Int.reduceLE, Int.reduceEq]
        by_cases h0 : 0 ≤ g
        · have hb := fewT_b a g (by omega) (by omega)
          have v1 : IntKind.i64.wrap (g - 1) = g - 1 := by rw [wrap_i64] <;> omega
          have hct := fun h => ih (szT a) (by omega) a (Nat.le_refl _) (by omega) g (by omega) (by omega) h
          simp only [tyv_eq] at hct
          rw [fewTs, if_pos h0] at hv
          have d0 : decide (0 ≤ g) = true := by rw [decide_eq_true_eq]; exact h0
          simp only [d0, hmo, aw20, List.take_succ_cons, List.take_zero, List.drop_zero, List.drop_succ_cons, List.length_map, ↓awD, awP, Nat.reduceLeDiff, Nat.reduceEqDiff, Nat.reduceAdd, Nat.zero_add, Int.cast_ofNat_Int, Int.reduceLT, Int.reduceLE, Int.reduceEq]
          repeat' (first | ((first | refine Need.mk (by first | (first | omega | (simp only [decide_eq_true_eq, decide_eq_false_iff_not, Bool.and_eq_true, Bool.not_eq_true', Bool.not_eq_false', List.length_map] at *; omega) | (simp; omega)) | (constructor <;> (first | omega | (simp only [decide_eq_true_eq, decide_eq_false_iff_not, Bool.and_eq_true, Bool.not_eq_true', Bool.not_eq_false', List.length_map] at *; omega) | (simp; omega)))) (Elem.recs hga (by first | (rw [tyv_eq]; exact ⟨rfl, rfl⟩) | exact ⟨rfl, rfl⟩) ?_) | refine Elem.recs hga (by first | (rw [tyv_eq]; exact ⟨rfl, rfl⟩) | exact ⟨rfl, rfl⟩) ?_); simp only [tyv_eq, hmo, v1, aw21, aw20, List.take_succ_cons, List.take_zero, List.drop_zero, List.drop_succ_cons, List.length_map, ↓awD, awP, Nat.reduceLeDiff, Nat.reduceEqDiff, Nat.reduceAdd, Nat.zero_add, Int.cast_ofNat_Int, Int.reduceLT, Int.reduceLE, Int.reduceEq]) | ((first | refine EvF.ret (hct _) ?_ | refine EvRF.ret (hct _) ?_); simp only [hmo, w3, aw21, aw20, List.take_succ_cons, List.take_zero, List.drop_zero, List.drop_succ_cons, List.length_map, ↓awD, awP, Nat.reduceLeDiff, Nat.reduceEqDiff, Nat.reduceAdd, Nat.zero_add, Int.cast_ofNat_Int, Int.reduceLT, Int.reduceLE, Int.reduceEq]))
          exact ⟨(i + 1, fewT a g), ⟨hi, ⟨⟨by omega, by omega⟩, hv⟩⟩, by simp only; omega, weak_of (rfl) (by simp [look])⟩
        · rw [fewTs, if_neg h0] at hv
          subst hv
          have d0 : decide (0 ≤ g) = false := by rw [decide_eq_false_iff_not]; exact h0
          simp only [d0, aw20, List.take_succ_cons, List.take_zero, List.drop_zero, List.drop_succ_cons, List.length_map, ↓awD, awP, Nat.reduceLeDiff, Nat.reduceEqDiff, Nat.reduceAdd, Nat.zero_add, Int.cast_ofNat_Int, Int.reduceLT, Int.reduceLE, Int.reduceEq]
          exact hx _ ⟨rfl, by simp [look], by simp [look]⟩
      · rintro g ⟨_, hv⟩ e1
        rw [drop_len] at hv
        simp only [fewTs] at hv
        subst hv
        simp only [e1, hmo, aw20, List.take_succ_cons, List.take_zero, List.drop_zero, List.drop_succ_cons, List.length_map, ↓awD, awP, Nat.reduceLeDiff, Nat.reduceEqDiff, Nat.reduceAdd, Nat.zero_add, Int.cast_ofNat_Int, Int.reduceLT, Int.reduceLE, Int.reduceEq]
        exact hx _ ⟨rfl, by simp [look], by simp [look]⟩
    have hpb7 := fewTs_b t.elem g6 (by omega) (by omega)
    generalize fewTs t.elem g6 = g7 at hpb7 ⊢
    rintro ⟨tm, hp⟩ ⟨h0, k1, k2⟩
    simp only at h0 k1 k2
    subst h0
    simp only [k1, k2, hmo, aw20, List.take_succ_cons, List.take_zero, List.drop_zero, List.drop_succ_cons, List.length_map, ↓awD, awP, Nat.reduceLeDiff, Nat.reduceEqDiff, Nat.reduceAdd, Nat.zero_add, Int.cast_ofNat_Int, Int.reduceLT, Int.reduceLE, Int.reduceEq]
    refine Fin.end hcl rfl (by first | rfl | exact (List.append_nil _).symm | (simp only [List.append_assoc]; rfl)) ⟨?_, rfl⟩
    rfl

theorem few_ev2 (t : Ty) (hm : mxT t ≤ 2 ^ 48) (n : Int) (hn : -(2 : Int) ^ 49 ≤ n) (hn2 : n ≤ 2 ^ 60) (h : List AObj) : EvR E0 7 [tyv t, i64 n] h (boolv (decide (0 ≤ fewT t n))) := by
  refine ev_of (fn := Tryd.f7) (hs := []) Tryd.func7 c7 (by simp) fun hcl => ?_
  have h1 := fun h => rfew_ev _ t (Nat.le_refl _) hm n hn hn2 h
  simp only [tyv_eq] at h1
  simp only [ac7, tyv_eq, aw20, List.take_succ_cons, List.take_zero, List.drop_zero, List.drop_succ_cons, List.length_map, ↓awD, awP, Nat.reduceLeDiff, Nat.reduceEqDiff, Nat.reduceAdd, Nat.zero_add, Int.cast_ofNat_Int, Int.reduceLT, Int.reduceLE, Int.reduceEq]
  repeat' ((first | refine EvF.ret (h1 _) ?_ | refine EvRF.ret (h1 _) ?_); simp only [aw21, aw21, aw20, List.take_succ_cons, List.take_zero, List.drop_zero, List.drop_succ_cons, List.length_map, ↓awD, awP, Nat.reduceLeDiff, Nat.reduceEqDiff, Nat.reduceAdd, Nat.zero_add, Int.cast_ofNat_Int, Int.reduceLT, Int.reduceLE, Int.reduceEq])
  all_goals (refine Fin.end hcl rfl (by first | rfl | exact (List.append_nil _).symm | (simp only [List.append_assoc]; rfl)) ⟨?_, rfl⟩; first | rfl | ((try simp only [dnat, decide_eq_true_eq, decide_eq_false_iff_not, List.length_eq_zero_iff, List.length_pos_iff] at *); first | (simp [*, aw21]; done) | (simp [*, aw21]; omega) | (clear hcl; simp [*, aw21] <;> grind) | (simp [*, aw21])))
theorem fewCon_ev2 (c : Con) (hm : mxC c ≤ 2 ^ 48) (n : Int) (hn : -(2 : Int) ^ 49 ≤ n) (hn2 : n ≤ 2 ^ 60) (h : List AObj) : EvR E0 12 [conv c, i64 n] h (boolv (decide (0 ≤ fewC c n))) := by
  refine ev_of (fn := Tryd.f12) (hs := []) Tryd.func12 c12 (by simp) fun hcl => ?_
  have h1 := fun h => rfewCon_ev _ c (Nat.le_refl _) hm n (by omega) hn2 h
  simp only [conv_eq] at h1
  simp only [ac12, conv_eq, aw20, List.take_succ_cons, List.take_zero, List.drop_zero, List.drop_succ_cons, List.length_map, ↓awD, awP, Nat.reduceLeDiff, Nat.reduceEqDiff, Nat.reduceAdd, Nat.zero_add, Int.cast_ofNat_Int, Int.reduceLT, Int.reduceLE, Int.reduceEq]
  repeat' ((first | refine EvF.ret (h1 _) ?_ | refine EvRF.ret (h1 _) ?_); simp only [aw21, aw21, aw20, List.take_succ_cons, List.take_zero, List.drop_zero, List.drop_succ_cons, List.length_map, ↓awD, awP, Nat.reduceLeDiff, Nat.reduceEqDiff, Nat.reduceAdd, Nat.zero_add, Int.cast_ofNat_Int, Int.reduceLT, Int.reduceLE, Int.reduceEq])
  all_goals (refine Fin.end hcl rfl (by first | rfl | exact (List.append_nil _).symm | (simp only [List.append_assoc]; rfl)) ⟨?_, rfl⟩; first | rfl | ((try simp only [dnat, decide_eq_true_eq, decide_eq_false_iff_not, List.length_eq_zero_iff, List.length_pos_iff] at *); first | (simp [*, aw21]; done) | (simp [*, aw21]; omega) | (clear hcl; simp [*, aw21] <;> grind) | (simp [*, aw21])))
theorem fewValues_ev2 (l : List Val) (hm : mxVs l ≤ 2 ^ 48) (n : Int) (hn : -(2 : Int) ^ 49 ≤ n) (hn2 : n ≤ 2 ^ 60) (h : List AObj) : EvR E0 10 [vall l, i64 n] h (boolv (decide (0 ≤ fewVs l n))) := by
  refine ev_of (fn := Tryd.f10) (hs := []) Tryd.func10 c10 (by simp) fun hcl => ?_
  have h1 := fun h => rfewDefs_ev _ l (Nat.le_refl _) hm n hn hn2 h
  simp only [ac10, aw20, List.take_succ_cons, List.take_zero, List.drop_zero, List.drop_succ_cons, List.length_map, ↓awD, awP, Nat.reduceLeDiff, Nat.reduceEqDiff, Nat.reduceAdd, Nat.zero_add, Int.cast_ofNat_Int, Int.reduceLT, Int.reduceLE, Int.reduceEq]
  repeat' ((first | refine EvF.ret (h1 _) ?_ | refine EvRF.ret (h1 _) ?_); simp only [aw21, aw21, aw20, List.take_succ_cons, List.take_zero, List.drop_zero, List.drop_succ_cons, List.length_map, ↓awD, awP, Nat.reduceLeDiff, Nat.reduceEqDiff, Nat.reduceAdd, Nat.zero_add, Int.cast_ofNat_Int, Int.reduceLT, Int.reduceLE, Int.reduceEq])
  all_goals (refine Fin.end hcl rfl (by first | rfl | exact (List.append_nil _).symm | (simp only [List.append_assoc]; rfl)) ⟨?_, rfl⟩; first | rfl | ((try simp only [dnat, decide_eq_true_eq, decide_eq_false_iff_not, List.length_eq_zero_iff, List.length_pos_iff] at *); first | (simp [*, aw21]; done) | (simp [*, aw21]; omega) | (clear hcl; simp [*, aw21] <;> grind) | (simp [*, aw21])))
end Go.Abs.Fr
