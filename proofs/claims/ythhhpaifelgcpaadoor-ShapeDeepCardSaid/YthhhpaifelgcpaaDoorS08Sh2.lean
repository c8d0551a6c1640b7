/- Keywords and constraints that are shaped: shape's answers. -/
import Derived.Test.YthhhpaifelgcpaaDoorS08Row
import Derived.Test.YthhhpaifelgcpaaDoorAbsK2
set_option linter.all false
namespace Go.Abs.Fr
open Go Go.Abs Go.Proofs
set_option linter.unusedSimpArgs false
set_option maxRecDepth 100000

/-- spandrel/shape.Keyword -/
def ac17 : ACode := (.seq (.region [⟨(some 2), (.move (.const (.bool false))), none⟩]) (.seq (.seq (.region [⟨(some 3), (.move (.tmp 0)), none⟩]) (.block 0 (.seq (.seq (.region [⟨(some 5), (.bin .eql (.tmp 3) (.const (.string (⟨#[66, 79, 79, 76, 69, 65, 78]⟩ : ByteArray)))), none⟩, ⟨(some 4), (.move (.tmp 5)), none⟩]) (.cond (.tmp 4) .skip (.seq (.region [⟨(some 6), (.bin .eql (.tmp 3) (.const (.string (⟨#[73, 78, 84, 69, 71, 69, 82]⟩ : ByteArray)))), none⟩, ⟨(some 4), (.move (.tmp 6)), none⟩]) (.cond (.tmp 4) .skip (.seq (.region [⟨(some 7), (.bin .eql (.tmp 3) (.const (.string (⟨#[69, 78, 85, 77, 69, 82, 65, 84, 69, 68]⟩ : ByteArray)))), none⟩, ⟨(some 4), (.move (.tmp 7)), none⟩]) (.cond (.tmp 4) .skip (.seq (.region [⟨(some 8), (.bin .eql (.tmp 3) (.const (.string (⟨#[78, 85, 76, 76]⟩ : ByteArray)))), none⟩, ⟨(some 4), (.move (.tmp 8)), none⟩]) (.cond (.tmp 4) .skip (.seq (.region [⟨(some 9), (.bin .eql (.tmp 3) (.const (.string (⟨#[66, 73, 84]⟩ : ByteArray)))), none⟩, ⟨(some 4), (.move (.tmp 9)), none⟩]) (.cond (.tmp 4) .skip (.seq (.region [⟨(some 10), (.bin .eql (.tmp 3) (.const (.string (⟨#[83, 84, 82, 73, 78, 71]⟩ : ByteArray)))), none⟩, ⟨(some 4), (.move (.tmp 10)), none⟩]) (.cond (.tmp 4) .skip (.seq (.region [⟨(some 11), (.bin .eql (.tmp 3) (.const (.string (⟨#[79, 67, 84, 69, 84]⟩ : ByteArray)))), none⟩, ⟨(some 4), (.move (.tmp 11)), none⟩]) (.cond (.tmp 4) .skip (.seq (.region [⟨(some 12), (.bin .eql (.tmp 3) (.const (.string (⟨#[73, 65, 53, 83, 116, 114, 105, 110, 103]⟩ : ByteArray)))), none⟩, ⟨(some 4), (.move (.tmp 12)), none⟩]) (.cond (.tmp 4) .skip (.seq (.region [⟨(some 13), (.bin .eql (.tmp 3) (.const (.string (⟨#[83, 69, 81, 85, 69, 78, 67, 69]⟩ : ByteArray)))), none⟩, ⟨(some 4), (.move (.tmp 13)), none⟩]) (.cond (.tmp 4) .skip (.seq (.region [⟨(some 14), (.bin .eql (.tmp 3) (.const (.string (⟨#[79, 70]⟩ : ByteArray)))), none⟩, ⟨(some 4), (.move (.tmp 14)), none⟩]) (.cond (.tmp 4) .skip (.seq (.region [⟨(some 15), (.bin .eql (.tmp 3) (.const (.string (⟨#[67, 72, 79, 73, 67, 69]⟩ : ByteArray)))), none⟩, ⟨(some 4), (.move (.tmp 15)), none⟩]) (.cond (.tmp 4) .skip (.seq (.region [⟨(some 16), (.bin .eql (.tmp 3) (.const (.string (⟨#[83, 73, 90, 69]⟩ : ByteArray)))), none⟩, ⟨(some 4), (.move (.tmp 16)), none⟩]) (.cond (.tmp 4) .skip (.region [⟨(some 17), (.bin .eql (.tmp 3) (.const (.string (⟨#[70, 82, 79, 77]⟩ : ByteArray)))), none⟩, ⟨(some 4), (.move (.tmp 17)), none⟩]))))))))))))))))))))))))) (.cond (.tmp 4) (.seq (.region [⟨(some 2), (.move (.const (.bool true))), none⟩]) .ret) (.seq (.seq (.region [⟨(some 19), (.bin .eql (.tmp 3) (.const (.string (⟨#[79, 80, 84, 73, 79, 78, 65, 76]⟩ : ByteArray)))), none⟩, ⟨(some 18), (.move (.tmp 19)), none⟩]) (.cond (.tmp 18) .skip (.seq (.region [⟨(some 20), (.bin .eql (.tmp 3) (.const (.string (⟨#[68, 69, 70, 65, 85, 76, 84]⟩ : ByteArray)))), none⟩, ⟨(some 18), (.move (.tmp 20)), none⟩]) (.cond (.tmp 18) .skip (.seq (.region [⟨(some 21), (.bin .eql (.tmp 3) (.const (.string (⟨#[84, 82, 85, 69]⟩ : ByteArray)))), none⟩, ⟨(some 18), (.move (.tmp 21)), none⟩]) (.cond (.tmp 18) .skip (.seq (.region [⟨(some 22), (.bin .eql (.tmp 3) (.const (.string (⟨#[70, 65, 76, 83, 69]⟩ : ByteArray)))), none⟩, ⟨(some 18), (.move (.tmp 22)), none⟩]) (.cond (.tmp 18) .skip (.seq (.region [⟨(some 23), (.bin .eql (.tmp 3) (.const (.string (⟨#[77, 73, 78]⟩ : ByteArray)))), none⟩, ⟨(some 18), (.move (.tmp 23)), none⟩]) (.cond (.tmp 18) .skip (.seq (.region [⟨(some 24), (.bin .eql (.tmp 3) (.const (.string (⟨#[77, 65, 88]⟩ : ByteArray)))), none⟩, ⟨(some 18), (.move (.tmp 24)), none⟩]) (.cond (.tmp 18) .skip (.seq (.region [⟨(some 25), (.bin .eql (.tmp 3) (.const (.string (⟨#[69, 88, 67, 69, 80, 84]⟩ : ByteArray)))), none⟩, ⟨(some 18), (.move (.tmp 25)), none⟩]) (.cond (.tmp 18) .skip (.seq (.region [⟨(some 26), (.bin .eql (.tmp 3) (.const (.string (⟨#[68, 69, 70, 73, 78, 73, 84, 73, 79, 78, 83]⟩ : ByteArray)))), none⟩, ⟨(some 18), (.move (.tmp 26)), none⟩]) (.cond (.tmp 18) .skip (.seq (.region [⟨(some 27), (.bin .eql (.tmp 3) (.const (.string (⟨#[65, 85, 84, 79, 77, 65, 84, 73, 67]⟩ : ByteArray)))), none⟩, ⟨(some 18), (.move (.tmp 27)), none⟩]) (.cond (.tmp 18) .skip (.seq (.region [⟨(some 28), (.bin .eql (.tmp 3) (.const (.string (⟨#[84, 65, 71, 83]⟩ : ByteArray)))), none⟩, ⟨(some 18), (.move (.tmp 28)), none⟩]) (.cond (.tmp 18) .skip (.seq (.region [⟨(some 29), (.bin .eql (.tmp 3) (.const (.string (⟨#[66, 69, 71, 73, 78]⟩ : ByteArray)))), none⟩, ⟨(some 18), (.move (.tmp 29)), none⟩]) (.cond (.tmp 18) .skip (.seq (.region [⟨(some 30), (.bin .eql (.tmp 3) (.const (.string (⟨#[69, 78, 68]⟩ : ByteArray)))), none⟩, ⟨(some 18), (.move (.tmp 30)), none⟩]) (.cond (.tmp 18) .skip (.region [⟨(some 31), (.bin .eql (.tmp 3) (.const (.string (⟨#[73, 77, 80, 79, 82, 84, 83]⟩ : ByteArray)))), none⟩, ⟨(some 18), (.move (.tmp 31)), none⟩]))))))))))))))))))))))))) (.cond (.tmp 18) (.seq (.region [⟨(some 2), (.move (.const (.bool true))), none⟩]) .ret) .skip)))))) (.seq (.region [⟨(some 2), (.move (.const (.bool false))), none⟩]) .ret)))
theorem c17 : cfn E0.P [] Tryd.f17 = some (ac17, [(.tmp 2)], 32) := by kernel_rfl
/-- spandrel/shape.name -/
def ac34 : ACode := (.seq (.region [⟨(some 2), (.move (.const (.bool false))), none⟩]) (.seq (.region [⟨(some 3), (.move (.tmp 0)), none⟩, ⟨(some 4), (.call (.func 57) [((.tmp 3), false)]), none⟩, ⟨(some 5), (.move (.tmp 4)), none⟩, ⟨(some 6), (.move (.tmp 0)), (some (5, true))⟩, ⟨(some 7), (.call (.func 17) [((.tmp 6), false)]), (some (5, true))⟩, ⟨(some 8), (.un .not (.tmp 7)), (some (5, true))⟩, ⟨(some 9), (.pick (.tmp 5) (.tmp 8) (.const (.bool false))), none⟩, ⟨(some 2), (.move (.tmp 9)), none⟩]) .ret))
theorem c34 : cfn E0.P [] Tryd.f34 = some (ac34, [(.tmp 2)], 10) := by kernel_rfl
/-- spandrel/shape.bare -/
def ac46 : ACode := (.seq (.region [⟨(some 1), (.box (.tmp 0)), none⟩, ⟨(some 2), (.move (.const (.bool false))), none⟩]) (.seq (.region [⟨(some 3), (.fieldAddr 1 (.tmp 1)), none⟩, ⟨(some 4), (.load none (.tmp 3)), none⟩, ⟨(some 5), (.bin .eql (.tmp 4) (.const (.int .i64 0))), none⟩, ⟨(some 6), (.move (.tmp 5)), none⟩, ⟨(some 7), (.fieldAddr 2 (.tmp 1)), (some (6, true))⟩, ⟨(some 8), (.load none (.tmp 7)), (some (6, true))⟩, ⟨(some 9), (.bin .eql (.tmp 8) (.const (.int .i64 0))), (some (6, true))⟩, ⟨(some 10), (.pick (.tmp 6) (.tmp 9) (.const (.bool false))), none⟩, ⟨(some 11), (.move (.tmp 10)), none⟩, ⟨(some 12), (.fieldAddr 3 (.tmp 1)), (some (11, true))⟩, ⟨(some 13), (.load none (.tmp 12)), (some (11, true))⟩, ⟨(some 14), (.un .not (.tmp 13)), (some (11, true))⟩, ⟨(some 15), (.pick (.tmp 11) (.tmp 14) (.const (.bool false))), none⟩, ⟨(some 16), (.move (.tmp 15)), none⟩, ⟨(some 17), (.fieldAddr 4 (.tmp 1)), (some (16, true))⟩, ⟨(some 18), (.load none (.tmp 17)), (some (16, true))⟩, ⟨(some 19), (.un .not (.tmp 18)), (some (16, true))⟩, ⟨(some 20), (.pick (.tmp 16) (.tmp 19) (.const (.bool false))), none⟩, ⟨(some 2), (.move (.tmp 20)), none⟩]) .ret))
theorem c46 : cfn E0.P [] Tryd.f46 = some (ac46, [(.tmp 2)], 21) := by kernel_rfl

set_option maxHeartbeats 2000000 in
theorem keyword_ev (s : ByteArray) (h : List AObj) : EvR E0 17 [str s] h (boolv (kwd s)) := by
  refine ev_of (fn := Tryd.f17) (hs := []) Tryd.func17 c17 (by simp) fun hcl => ?_
  simp only [ac17, aw20, List.take_succ_cons, List.take_zero, List.drop_zero, List.drop_succ_cons, List.length_map, ↓awD, awP, Nat.reduceLeDiff, Nat.reduceEqDiff, Nat.reduceAdd, Nat.zero_add, Int.cast_ofNat_Int, Int.reduceLT, Int.reduceLE, Int.reduceEq]
  repeat' (refine BrF.mk (fun hb => ?_) (fun hb => ?_) <;> (try rw [hb]) <;> simp only [aw20, aw21, aw20, List.take_succ_cons, List.take_zero, List.drop_zero, List.drop_succ_cons, List.length_map, ↓awD, awP, Nat.reduceLeDiff, Nat.reduceEqDiff, Nat.reduceAdd, Nat.zero_add, Int.cast_ofNat_Int, Int.reduceLT, Int.reduceLE, Int.reduceEq])
  all_goals (refine Fin.end hcl rfl (by first | rfl | exact (List.append_nil _).symm | (simp only [List.append_assoc]; rfl)) ⟨?_, rfl⟩)
  all_goals (simp only [kwd, kws, List.any_cons, List.any_nil, *]; rfl)
theorem name_ev (s : ByteArray) (hs : s.size < 2 ^ 60) (h : List AObj) : EvR E0 34 [str s] h (boolv (nam s)) := by
  refine ev_of (fn := Tryd.f34) (hs := []) Tryd.func34 c34 (by simp) fun hcl => ?_
  simp only [ac34, aw20, List.take_succ_cons, List.take_zero, List.drop_zero, List.drop_succ_cons, List.length_map, ↓awD, awP, Nat.reduceLeDiff, Nat.reduceEqDiff, Nat.reduceAdd, Nat.zero_add, Int.cast_ofNat_Int, Int.reduceLT, Int.reduceLE, Int.reduceEq]
  refine EvF.ret (upper_ev s h hs) ?_
  rw [show (whl s.data.toList && lt97 (pk s.data.toList 0)) = uppr s from rfl]
  simp only [aw20, List.take_succ_cons, List.take_zero, List.drop_zero, List.drop_succ_cons, List.length_map, ↓awD, awP, Nat.reduceLeDiff, Nat.reduceEqDiff, Nat.reduceAdd, Nat.zero_add, Int.cast_ofNat_Int, Int.reduceLT, Int.reduceLE, Int.reduceEq]
  repeat' (first | ((first | refine EvF.ret (keyword_ev s _) ?_ | refine EvRF.ret (keyword_ev s _) ?_); simp only [aw20, aw21, aw20, List.take_succ_cons, List.take_zero, List.drop_zero, List.drop_succ_cons, List.length_map, ↓awD, awP, Nat.reduceLeDiff, Nat.reduceEqDiff, Nat.reduceAdd, Nat.zero_add, Int.cast_ofNat_Int, Int.reduceLT, Int.reduceLE, Int.reduceEq]) | (refine BrF.mk (fun hb => ?_) (fun hb => ?_) <;> (try rw [hb]) <;> simp only [aw20, aw21, aw20, List.take_succ_cons, List.take_zero, List.drop_zero, List.drop_succ_cons, List.length_map, ↓awD, awP, Nat.reduceLeDiff, Nat.reduceEqDiff, Nat.reduceAdd, Nat.zero_add, Int.cast_ofNat_Int, Int.reduceLT, Int.reduceLE, Int.reduceEq]))
  all_goals (refine Fin.end hcl rfl (by first | rfl | exact (List.append_nil _).symm | (simp only [List.append_assoc]; rfl)) ⟨?_, rfl⟩; first | rfl | ((try simp only [dnat, decide_eq_true_eq, decide_eq_false_iff_not, List.length_eq_zero_iff, List.length_pos_iff] at *); first | (simp [*, nam]; done) | (simp [*, nam]; omega) | (clear hcl; simp [*, nam] <;> grind) | (simp [*, nam])))
theorem bare_ev (c : Con) (h : List AObj) : EvR E0 46 [conv c] h (boolv (bare c)) := by
  refine ev_of (fn := Tryd.f46) (hs := []) Tryd.func46 c46 (by simp) fun hcl => ?_
  simp only [ac46, conv_eq, aw21, aw20, List.take_succ_cons, List.take_zero, List.drop_zero, List.drop_succ_cons, List.length_map, ↓awD, awP, Nat.reduceLeDiff, Nat.reduceEqDiff, Nat.reduceAdd, Nat.zero_add, Int.cast_ofNat_Int, Int.reduceLT, Int.reduceLE, Int.reduceEq]
  repeat' (refine BrF.mk (fun hb => ?_) (fun hb => ?_) <;> (try rw [hb]) <;> simp only [aw20, aw21, aw20, List.take_succ_cons, List.take_zero, List.drop_zero, List.drop_succ_cons, List.length_map, ↓awD, awP, Nat.reduceLeDiff, Nat.reduceEqDiff, Nat.reduceAdd, Nat.zero_add, Int.cast_ofNat_Int, Int.reduceLT, Int.reduceLE, Int.reduceEq])
  all_goals (refine Fin.end hcl rfl (by first | rfl | exact (List.append_nil _).symm | (simp only [List.append_assoc]; rfl)) ⟨?_, rfl⟩; first | rfl | ((try simp only [dnat, decide_eq_true_eq, decide_eq_false_iff_not, List.length_eq_zero_iff, List.length_pos_iff] at *); first | (simp [*, bare]; done) | (simp [*, bare]; omega) | (clear hcl; simp [*, bare] <;> grind) | (simp [*, bare])))
end Go.Abs.Fr

namespace Go.Abs.Fr
open Go Go.Abs Go.Proofs
set_option linter.unusedSimpArgs false
set_option maxRecDepth 100000

/-- slices.ContainsFunc[[]spandrel/api.Con,spandrel/api.Con] -/
def ac47 : ACode := (.seq (.region [⟨(some 4), (.move (.const (.bool false))), none⟩]) (.seq (.region [⟨(some 5), (.move (.tmp 0)), none⟩, ⟨(some 6), (.move (.tmp 1)), none⟩, ⟨(some 7), (.call (.func 61) [((.tmp 5), false), ((.tmp 6), false)]), none⟩, ⟨(some 8), (.bin .geq (.tmp 7) (.const (.int .i64 0))), none⟩, ⟨(some 4), (.move (.tmp 8)), none⟩]) .ret))
theorem c47 : cfn E0.P [] Tryd.f47 = some (ac47, [(.tmp 4)], 9) := by kernel_rfl
/-- slices.ContainsFunc[[]string,string] -/
def ac51 : ACode := (.seq (.region [⟨(some 4), (.move (.const (.bool false))), none⟩]) (.seq (.region [⟨(some 5), (.move (.tmp 0)), none⟩, ⟨(some 6), (.move (.tmp 1)), none⟩, ⟨(some 7), (.call (.func 63) [((.tmp 5), false), ((.tmp 6), false)]), none⟩, ⟨(some 8), (.bin .geq (.tmp 7) (.const (.int .i64 0))), none⟩, ⟨(some 4), (.move (.tmp 8)), none⟩]) .ret))
theorem c51 : cfn E0.P [] Tryd.f51 = some (ac51, [(.tmp 4)], 9) := by kernel_rfl
/-- slices.ContainsFunc[[]spandrel/api.Part,spandrel/api.Part] -/
def ac54 : ACode := (.seq (.region [⟨(some 4), (.move (.const (.bool false))), none⟩]) (.seq (.region [⟨(some 5), (.move (.tmp 0)), none⟩, ⟨(some 6), (.move (.tmp 1)), none⟩, ⟨(some 7), (.call (.func 65) [((.tmp 5), false), ((.tmp 6), false)]), none⟩, ⟨(some 8), (.bin .geq (.tmp 7) (.const (.int .i64 0))), none⟩, ⟨(some 4), (.move (.tmp 8)), none⟩]) .ret))
theorem c54 : cfn E0.P [] Tryd.f54 = some (ac54, [(.tmp 4)], 9) := by kernel_rfl
/-- slices.IndexFunc[[]spandrel/api.Con,spandrel/api.Con] -/
def ac61 : ACode := (.seq (.region [⟨(some 4), (.move (.const (.int .i64 0))), none⟩]) (.seq (.seq (.region [⟨(some 6), (.move (.tmp 0)), none⟩, ⟨(some 7), (.len false (.tmp 6)), none⟩, ⟨(some 8), (.move (.const (.int .i64 0))), none⟩]) (.block 0 (.loop (.seq (.region [⟨(some 9), (.bin .lss (.tmp 8) (.tmp 7)), none⟩]) (.seq (.cond (.tmp 9) .skip (.exit 0)) (.seq (.block 1 (.seq (.region [⟨(some 10), (.move (.tmp 8)), none⟩, ⟨(some 5), (.move (.tmp 10)), none⟩]) (.seq (.region [⟨(some 11), (.move (.tmp 1)), none⟩, ⟨(some 12), (.move (.tmp 0)), none⟩, ⟨(some 13), (.move (.tmp 5)), none⟩, ⟨(some 14), (.indexAddr 6 (.tmp 12) (.tmp 13)), none⟩, ⟨(some 15), (.load (some 6) (.tmp 14)), none⟩, ⟨(some 16), (.call (.tmp 11) [((.tmp 15), false)]), none⟩]) (.cond (.tmp 16) (.seq (.region [⟨(some 17), (.move (.tmp 5)), none⟩, ⟨(some 4), (.move (.tmp 17)), none⟩]) .ret) .skip)))) (.region [⟨(some 18), (.bin .add (.tmp 8) (.const (.int .i64 1))), none⟩, ⟨(some 8), (.move (.tmp 18)), none⟩]))))))) (.seq (.region [⟨(some 4), (.move (.const (.int .i64 (-1)))), none⟩]) .ret)))
theorem c61 : cfn E0.P [] Tryd.f61 = some (ac61, [(.tmp 4)], 19) := by kernel_rfl
/-- slices.IndexFunc[[]string,string] -/
def ac63 : ACode := (.seq (.region [⟨(some 4), (.move (.const (.int .i64 0))), none⟩]) (.seq (.seq (.region [⟨(some 6), (.move (.tmp 0)), none⟩, ⟨(some 7), (.len false (.tmp 6)), none⟩, ⟨(some 8), (.move (.const (.int .i64 0))), none⟩]) (.block 0 (.loop (.seq (.region [⟨(some 9), (.bin .lss (.tmp 8) (.tmp 7)), none⟩]) (.seq (.cond (.tmp 9) .skip (.exit 0)) (.seq (.block 1 (.seq (.region [⟨(some 10), (.move (.tmp 8)), none⟩, ⟨(some 5), (.move (.tmp 10)), none⟩]) (.seq (.region [⟨(some 11), (.move (.tmp 1)), none⟩, ⟨(some 12), (.move (.tmp 0)), none⟩, ⟨(some 13), (.move (.tmp 5)), none⟩, ⟨(some 14), (.indexAddr 1 (.tmp 12) (.tmp 13)), none⟩, ⟨(some 15), (.load none (.tmp 14)), none⟩, ⟨(some 16), (.call (.tmp 11) [((.tmp 15), false)]), none⟩]) (.cond (.tmp 16) (.seq (.region [⟨(some 17), (.move (.tmp 5)), none⟩, ⟨(some 4), (.move (.tmp 17)), none⟩]) .ret) .skip)))) (.region [⟨(some 18), (.bin .add (.tmp 8) (.const (.int .i64 1))), none⟩, ⟨(some 8), (.move (.tmp 18)), none⟩]))))))) (.seq (.region [⟨(some 4), (.move (.const (.int .i64 (-1)))), none⟩]) .ret)))
theorem c63 : cfn E0.P [] Tryd.f63 = some (ac63, [(.tmp 4)], 19) := by kernel_rfl
/-- slices.IndexFunc[[]spandrel/api.Part,spandrel/api.Part] -/
def ac65 : ACode := (.seq (.region [⟨(some 4), (.move (.const (.int .i64 0))), none⟩]) (.seq (.seq (.region [⟨(some 6), (.move (.tmp 0)), none⟩, ⟨(some 7), (.len false (.tmp 6)), none⟩, ⟨(some 8), (.move (.const (.int .i64 0))), none⟩]) (.block 0 (.loop (.seq (.region [⟨(some 9), (.bin .lss (.tmp 8) (.tmp 7)), none⟩]) (.seq (.cond (.tmp 9) .skip (.exit 0)) (.seq (.block 1 (.seq (.region [⟨(some 10), (.move (.tmp 8)), none⟩, ⟨(some 5), (.move (.tmp 10)), none⟩]) (.seq (.region [⟨(some 11), (.move (.tmp 1)), none⟩, ⟨(some 12), (.move (.tmp 0)), none⟩, ⟨(some 13), (.move (.tmp 5)), none⟩, ⟨(some 14), (.indexAddr 18 (.tmp 12) (.tmp 13)), none⟩, ⟨(some 15), (.load (some 18) (.tmp 14)), none⟩, ⟨(some 16), (.call (.tmp 11) [((.tmp 15), false)]), none⟩]) (.cond (.tmp 16) (.seq (.region [⟨(some 17), (.move (.tmp 5)), none⟩, ⟨(some 4), (.move (.tmp 17)), none⟩]) .ret) .skip)))) (.region [⟨(some 18), (.bin .add (.tmp 8) (.const (.int .i64 1))), none⟩, ⟨(some 8), (.move (.tmp 18)), none⟩]))))))) (.seq (.region [⟨(some 4), (.move (.const (.int .i64 (-1)))), none⟩]) .ret)))
theorem c65 : cfn E0.P [] Tryd.f65 = some (ac65, [(.tmp 4)], 19) := by kernel_rfl

theorem con_idx (l : List Con) (f : FuncId) (caps : List AV) (p : Con → Bool) (h : List AObj) (hl : l.length < 2 ^ 60) (hp : ∀ s, s ∈ l → EvR E0 f (conv s :: caps.map AV.strip) h (boolv (p s))) :
    EvR E0 61 [.sl .unk (l.map conv), .fn (.func f) [] caps] h (i64 (idx p l 0)) := by
  refine ev_of (fn := Tryd.f61) (hs := []) Tryd.func61 c61 (by simp) fun hcl => ?_
  generalize hR : idx p l 0 = R
  simp only [ac61, aw20, List.take_succ_cons, List.take_zero, List.drop_zero, List.drop_succ_cons, List.length_map, ↓awD, awP, Nat.reduceLeDiff, Nat.reduceEqDiff, Nat.reduceAdd, Nat.zero_add, Int.cast_ofNat_Int, Int.reduceLT, Int.reduceLE, Int.reduceEq]
  refine LoopF.list l hl (γ := Unit) (fun i _ => ⟨[(0, .sl .unk (l.map conv)), (1, .fn (.func f) [] caps), (6, .sl .unk (l.map conv)), (7, i64 l.length), (8, i64 i)], h⟩) (fun i _ => idx p (l.drop i) i = R) () (by simpa using hR) (weak_of rfl (by simp [look])) ?_ ?_
  · rintro i a _ ha hv hi e1 w3
    rw [drop_get ha] at hv
    unfold idx at hv
    have hga := map_get conv l i a ha
    have hpa := hp a (List.mem_of_getElem? ha)
    simp only [conv_eq] at hpa
    simp only [e1, w3, aw20, List.take_succ_cons, List.take_zero, List.drop_zero, List.drop_succ_cons, List.length_map, ↓awD, awP, Nat.reduceLeDiff, Nat.reduceEqDiff, Nat.reduceAdd, Nat.zero_add, Int.cast_ofNat_Int, Int.reduceLT, Int.reduceLE, Int.reduceEq]
    repeat' (first | ((first | refine Need.mk (by first | (first | omega | (simp only [decide_eq_true_eq, decide_eq_false_iff_not, Bool.and_eq_true, Bool.not_eq_true', Bool.not_eq_false', List.length_map] at *; omega) | (simp; omega)) | (constructor <;> (first | omega | (simp only [decide_eq_true_eq, decide_eq_false_iff_not, Bool.and_eq_true, Bool.not_eq_true', Bool.not_eq_false', List.length_map] at *; omega) | (simp; omega)))) (Elem.recs hga (by first | (rw [conv_eq]; exact ⟨rfl, rfl⟩) | exact ⟨rfl, rfl⟩) ?_) | refine Elem.recs hga (by first | (rw [conv_eq]; exact ⟨rfl, rfl⟩) | exact ⟨rfl, rfl⟩) ?_); simp only [conv_eq, w3, aw21, aw20, List.take_succ_cons, List.take_zero, List.drop_zero, List.drop_succ_cons, List.length_map, ↓awD, awP, Nat.reduceLeDiff, Nat.reduceEqDiff, Nat.reduceAdd, Nat.zero_add, Int.cast_ofNat_Int, Int.reduceLT, Int.reduceLE, Int.reduceEq]) | ((first | refine EvF.ret (hpa) ?_ | refine EvRF.ret (hpa) ?_); simp only [w3, aw21, aw20, List.take_succ_cons, List.take_zero, List.drop_zero, List.drop_succ_cons, List.length_map, ↓awD, awP, Nat.reduceLeDiff, Nat.reduceEqDiff, Nat.reduceAdd, Nat.zero_add, Int.cast_ofNat_Int, Int.reduceLT, Int.reduceLE, Int.reduceEq]) | (refine BrF.mk (fun hb => ?_) (fun hb => ?_) <;> (try rw [hb]) <;> simp only [w3, aw21, aw20, List.take_succ_cons, List.take_zero, List.drop_zero, List.drop_succ_cons, List.length_map, ↓awD, awP, Nat.reduceLeDiff, Nat.reduceEqDiff, Nat.reduceAdd, Nat.zero_add, Int.cast_ofNat_Int, Int.reduceLT, Int.reduceLE, Int.reduceEq]))
    all_goals (simp only [*, if_true, if_false, Bool.false_eq_true] at hv)
    · subst hv; exact Fin.end hcl rfl (by first | rfl | exact (List.append_nil _).symm | (simp only [List.append_assoc]; rfl)) ⟨rfl, rfl⟩
    · exact ⟨(i + 1, ()), ⟨hi, hv⟩, by simp only; omega, weak_of (rfl) (by simp [look])⟩
  · rintro _ hv e1
    rw [drop_len] at hv
    unfold idx at hv
    subst hv
    simp only [e1, aw20, List.take_succ_cons, List.take_zero, List.drop_zero, List.drop_succ_cons, List.length_map, ↓awD, awP, Nat.reduceLeDiff, Nat.reduceEqDiff, Nat.reduceAdd, Nat.zero_add, Int.cast_ofNat_Int, Int.reduceLT, Int.reduceLE, Int.reduceEq]
    exact Fin.end hcl rfl (by first | rfl | exact (List.append_nil _).symm | (simp only [List.append_assoc]; rfl)) ⟨rfl, rfl⟩
theorem con_any (l : List Con) (f : FuncId) (caps : List AV) (p : Con → Bool) (h : List AObj) (hl : l.length < 2 ^ 60) (hp : ∀ s, s ∈ l → EvR E0 f (conv s :: caps.map AV.strip) h (boolv (p s))) :
    EvR E0 47 [.sl .unk (l.map conv), .fn (.func f) [] caps] h (boolv (l.any p)) := by
  refine ev_of (fn := Tryd.f47) (hs := []) Tryd.func47 c47 (by simp) fun hcl => ?_
  simp only [ac47, ↓awD, awP, Nat.reduceLeDiff, Nat.reduceEqDiff, Nat.reduceAdd, Nat.zero_add, Int.cast_ofNat_Int, Int.reduceLT, Int.reduceLE, Int.reduceEq]
  refine EvF.ret (con_idx l f caps p h hl hp) ?_
  simp only [idx_any, ↓awD, awP, Nat.reduceLeDiff, Nat.reduceEqDiff, Nat.reduceAdd, Nat.zero_add, Int.cast_ofNat_Int, Int.reduceLT, Int.reduceLE, Int.reduceEq]
  exact Fin.same0 hcl rfl ⟨rfl, rfl⟩

theorem str_idx (l : List ByteArray) (f : FuncId) (caps : List AV) (p : ByteArray → Bool) (h : List AObj) (hl : l.length < 2 ^ 60) (hp : ∀ s, s ∈ l → EvR E0 f (str s :: caps.map AV.strip) h (boolv (p s))) :
    EvR E0 63 [.sl .unk (l.map str), .fn (.func f) [] caps] h (i64 (idx p l 0)) := by
  refine ev_of (fn := Tryd.f63) (hs := []) Tryd.func63 c63 (by simp) fun hcl => ?_
  generalize hR : idx p l 0 = R
  simp only [ac63, aw20, List.take_succ_cons, List.take_zero, List.drop_zero, List.drop_succ_cons, List.length_map, ↓awD, awP, Nat.reduceLeDiff, Nat.reduceEqDiff, Nat.reduceAdd, Nat.zero_add, Int.cast_ofNat_Int, Int.reduceLT, Int.reduceLE, Int.reduceEq]
  refine LoopF.list l hl (γ := Unit) (fun i _ => ⟨[(0, .sl .unk (l.map str)), (1, .fn (.func f) [] caps), (6, .sl .unk (l.map str)), (7, i64 l.length), (8, i64 i)], h⟩) (fun i _ => idx p (l.drop i) i = R) () (by simpa using hR) (weak_of rfl (by simp [look])) ?_ ?_
  · rintro i a _ ha hv hi e1 w3
    rw [drop_get ha] at hv
    unfold idx at hv
    have hga := map_get str l i a ha
    have hpa := hp a (List.mem_of_getElem? ha)
    simp only [str] at hpa
    simp only [e1, w3, aw20, List.take_succ_cons, List.take_zero, List.drop_zero, List.drop_succ_cons, List.length_map, ↓awD, awP, Nat.reduceLeDiff, Nat.reduceEqDiff, Nat.reduceAdd, Nat.zero_add, Int.cast_ofNat_Int, Int.reduceLT, Int.reduceLE, Int.reduceEq]
    repeat' (first | ((first | refine Need.mk (by first | (first | omega | (simp only [decide_eq_true_eq, decide_eq_false_iff_not, Bool.and_eq_true, Bool.not_eq_true', Bool.not_eq_false', List.length_map] at *; omega) | (simp; omega)) | (constructor <;> (first | omega | (simp only [decide_eq_true_eq, decide_eq_false_iff_not, Bool.and_eq_true, Bool.not_eq_true', Bool.not_eq_false', List.length_map] at *; omega) | (simp; omega)))) (Elem.recs hga (by first | (rw [str]; exact ⟨rfl, rfl⟩) | exact ⟨rfl, rfl⟩) ?_) | refine Elem.recs hga (by first | (rw [str]; exact ⟨rfl, rfl⟩) | exact ⟨rfl, rfl⟩) ?_); simp only [str, w3, aw21, aw20, List.take_succ_cons, List.take_zero, List.drop_zero, List.drop_succ_cons, List.length_map, ↓awD, awP, Nat.reduceLeDiff, Nat.reduceEqDiff, Nat.reduceAdd, Nat.zero_add, Int.cast_ofNat_Int, Int.reduceLT, Int.reduceLE, Int.reduceEq]) | ((first | refine EvF.ret (hpa) ?_ | refine EvRF.ret (hpa) ?_); simp only [w3, aw21, aw20, List.take_succ_cons, List.take_zero, List.drop_zero, List.drop_succ_cons, List.length_map, ↓awD, awP, Nat.reduceLeDiff, Nat.reduceEqDiff, Nat.reduceAdd, Nat.zero_add, Int.cast_ofNat_Int, Int.reduceLT, Int.reduceLE, Int.reduceEq]) | (refine BrF.mk (fun hb => ?_) (fun hb => ?_) <;> (try rw [hb]) <;> simp only [w3, aw21, aw20, List.take_succ_cons, List.take_zero, List.drop_zero, List.drop_succ_cons, List.length_map, ↓awD, awP, Nat.reduceLeDiff, Nat.reduceEqDiff, Nat.reduceAdd, Nat.zero_add, Int.cast_ofNat_Int, Int.reduceLT, Int.reduceLE, Int.reduceEq]))
    all_goals (simp only [*, if_true, if_false, Bool.false_eq_true] at hv)
    · subst hv; exact Fin.end hcl rfl (by first | rfl | exact (List.append_nil _).symm | (simp only [List.append_assoc]; rfl)) ⟨rfl, rfl⟩
    · exact ⟨(i + 1, ()), ⟨hi, hv⟩, by simp only; omega, weak_of (rfl) (by simp [look])⟩
  · rintro _ hv e1
    rw [drop_len] at hv
    unfold idx at hv
    subst hv
    simp only [e1, aw20, List.take_succ_cons, List.take_zero, List.drop_zero, List.drop_succ_cons, List.length_map, ↓awD, awP, Nat.reduceLeDiff, Nat.reduceEqDiff, Nat.reduceAdd, Nat.zero_add, Int.cast_ofNat_Int, Int.reduceLT, Int.reduceLE, Int.reduceEq]
    exact Fin.end hcl rfl (by first | rfl | exact (List.append_nil _).symm | (simp only [List.append_assoc]; rfl)) ⟨rfl, rfl⟩
theorem str_any (l : List ByteArray) (f : FuncId) (caps : List AV) (p : ByteArray → Bool) (h : List AObj) (hl : l.length < 2 ^ 60) (hp : ∀ s, s ∈ l → EvR E0 f (str s :: caps.map AV.strip) h (boolv (p s))) :
    EvR E0 51 [.sl .unk (l.map str), .fn (.func f) [] caps] h (boolv (l.any p)) := by
  refine ev_of (fn := Tryd.f51) (hs := []) Tryd.func51 c51 (by simp) fun hcl => ?_
  simp only [ac51, ↓awD, awP, Nat.reduceLeDiff, Nat.reduceEqDiff, Nat.reduceAdd, Nat.zero_add, Int.cast_ofNat_Int, Int.reduceLT, Int.reduceLE, Int.reduceEq]
  refine EvF.ret (str_idx l f caps p h hl hp) ?_
  simp only [idx_any, ↓awD, awP, Nat.reduceLeDiff, Nat.reduceEqDiff, Nat.reduceAdd, Nat.zero_add, Int.cast_ofNat_Int, Int.reduceLT, Int.reduceLE, Int.reduceEq]
  exact Fin.same0 hcl rfl ⟨rfl, rfl⟩

theorem prt_idx (l : List Prt) (f : FuncId) (caps : List AV) (p : Prt → Bool) (h : List AObj) (hl : l.length < 2 ^ 60) (hp : ∀ s, s ∈ l → EvR E0 f (prtv s :: caps.map AV.strip) h (boolv (p s))) :
    EvR E0 65 [.sl .unk (l.map prtv), .fn (.func f) [] caps] h (i64 (idx p l 0)) := by
  refine ev_of (fn := Tryd.f65) (hs := []) Tryd.func65 c65 (by simp) fun hcl => ?_
  generalize hR : idx p l 0 = R
  simp only [ac65, aw20, List.take_succ_cons, List.take_zero, List.drop_zero, List.drop_succ_cons, List.length_map, ↓awD, awP, Nat.reduceLeDiff, Nat.reduceEqDiff, Nat.reduceAdd, Nat.zero_add, Int.cast_ofNat_Int, Int.reduceLT, Int.reduceLE, Int.reduceEq]
  refine LoopF.list l hl (γ := Unit) (fun i _ => ⟨[(0, .sl .unk (l.map prtv)), (1, .fn (.func f) [] caps), (6, .sl .unk (l.map prtv)), (7, i64 l.length), (8, i64 i)], h⟩) (fun i _ => idx p (l.drop i) i = R) () (by simpa using hR) (weak_of rfl (by simp [look])) ?_ ?_
  · rintro i a _ ha hv hi e1 w3
    rw [drop_get ha] at hv
    unfold idx at hv
    have hga := map_get prtv l i a ha
    have hpa := hp a (List.mem_of_getElem? ha)
    simp only [prtv_eq] at hpa
    simp only [e1, w3, aw20, List.take_succ_cons, List.take_zero, List.drop_zero, List.drop_succ_cons, List.length_map, ↓awD, awP, Nat.reduceLeDiff, Nat.reduceEqDiff, Nat.reduceAdd, Nat.zero_add, Int.cast_ofNat_Int, Int.reduceLT, Int.reduceLE, Int.reduceEq]
    repeat' (first | ((first | refine Need.mk (by first | (first | omega | (simp only [decide_eq_true_eq, decide_eq_false_iff_not, Bool.and_eq_true, Bool.not_eq_true', Bool.not_eq_false', List.length_map] at *; omega) | (simp; omega)) | (constructor <;> (first | omega | (simp only [decide_eq_true_eq, decide_eq_false_iff_not, Bool.and_eq_true, Bool.not_eq_true', Bool.not_eq_false', List.length_map] at *; omega) | (simp; omega)))) (Elem.recs hga (by first | (rw [prtv_eq]; exact ⟨rfl, rfl⟩) | exact ⟨rfl, rfl⟩) ?_) | refine Elem.recs hga (by first | (rw [prtv_eq]; exact ⟨rfl, rfl⟩) | exact ⟨rfl, rfl⟩) ?_); simp only [prtv_eq, w3, aw21, aw20, List.take_succ_cons, List.take_zero, List.drop_zero, List.drop_succ_cons, List.length_map, ↓awD, awP, Nat.reduceLeDiff, Nat.reduceEqDiff, Nat.reduceAdd, Nat.zero_add, Int.cast_ofNat_Int, Int.reduceLT, Int.reduceLE, Int.reduceEq]) | ((first | refine EvF.ret (hpa) ?_ | refine EvRF.ret (hpa) ?_); simp only [w3, aw21, aw20, List.take_succ_cons, List.take_zero, List.drop_zero, List.drop_succ_cons, List.length_map, ↓awD, awP, Nat.reduceLeDiff, Nat.reduceEqDiff, Nat.reduceAdd, Nat.zero_add, Int.cast_ofNat_Int, Int.reduceLT, Int.reduceLE, Int.reduceEq]) | (refine BrF.mk (fun hb => ?_) (fun hb => ?_) <;> (try rw [hb]) <;> simp only [w3, aw21, aw20, List.take_succ_cons, List.take_zero, List.drop_zero, List.drop_succ_cons, List.length_map, ↓awD, awP, Nat.reduceLeDiff, Nat.reduceEqDiff, Nat.reduceAdd, Nat.zero_add, Int.cast_ofNat_Int, Int.reduceLT, Int.reduceLE, Int.reduceEq]))
    all_goals (simp only [*, if_true, if_false, Bool.false_eq_true] at hv)
    · subst hv; exact Fin.end hcl rfl (by first | rfl | exact (List.append_nil _).symm | (simp only [List.append_assoc]; rfl)) ⟨rfl, rfl⟩
    · exact ⟨(i + 1, ()), ⟨hi, hv⟩, by simp only; omega, weak_of (rfl) (by simp [look])⟩
  · rintro _ hv e1
    rw [drop_len] at hv
    unfold idx at hv
    subst hv
    simp only [e1, aw20, List.take_succ_cons, List.take_zero, List.drop_zero, List.drop_succ_cons, List.length_map, ↓awD, awP, Nat.reduceLeDiff, Nat.reduceEqDiff, Nat.reduceAdd, Nat.zero_add, Int.cast_ofNat_Int, Int.reduceLT, Int.reduceLE, Int.reduceEq]
    exact Fin.end hcl rfl (by first | rfl | exact (List.append_nil _).symm | (simp only [List.append_assoc]; rfl)) ⟨rfl, rfl⟩
theorem prt_any (l : List Prt) (f : FuncId) (caps : List AV) (p : Prt → Bool) (h : List AObj) (hl : l.length < 2 ^ 60) (hp : ∀ s, s ∈ l → EvR E0 f (prtv s :: caps.map AV.strip) h (boolv (p s))) :
    EvR E0 54 [.sl .unk (l.map prtv), .fn (.func f) [] caps] h (boolv (l.any p)) := by
  refine ev_of (fn := Tryd.f54) (hs := []) Tryd.func54 c54 (by simp) fun hcl => ?_
  simp only [ac54, ↓awD, awP, Nat.reduceLeDiff, Nat.reduceEqDiff, Nat.reduceAdd, Nat.zero_add, Int.cast_ofNat_Int, Int.reduceLT, Int.reduceLE, Int.reduceEq]
  refine EvF.ret (prt_idx l f caps p h hl hp) ?_
  simp only [idx_any, ↓awD, awP, Nat.reduceLeDiff, Nat.reduceEqDiff, Nat.reduceAdd, Nat.zero_add, Int.cast_ofNat_Int, Int.reduceLT, Int.reduceLE, Int.reduceEq]
  exact Fin.same0 hcl rfl ⟨rfl, rfl⟩
end Go.Abs.Fr

namespace Go.Abs.Fr
open Go Go.Abs Go.Proofs
set_option linter.unusedSimpArgs false
set_option maxRecDepth 100000

/-- spandrel/shape.con -/
def ac25 : ACode := (.seq (.region [⟨(some 2), (.box (.tmp 0)), none⟩, ⟨(some 3), (.box (.tmp 1)), none⟩, ⟨(some 4), (.move (.const (.bool false))), none⟩]) (.seq (.seq (.region [⟨(some 5), (.load none (.tmp 3)), none⟩, ⟨(some 6), (.bin .eql (.tmp 5) (.const (.int .i64 0))), none⟩]) (.cond (.tmp 6) (.seq (.region [⟨(some 4), (.move (.const (.bool false))), none⟩]) .ret) .skip)) (.seq (.seq (.region [⟨(some 7), (.fieldAddr 0 (.tmp 2)), none⟩, ⟨(some 8), (.load none (.tmp 7)), none⟩]) (.block 0 (.seq (.region [⟨(some 10), (.bin .eql (.tmp 8) (.const (.int .i64 0))), none⟩, ⟨(some 9), (.move (.tmp 10)), none⟩]) (.cond (.tmp 9) (.seq (.region [⟨(some 11), (.load (some 6) (.tmp 2)), none⟩, ⟨(some 12), (.call (.func 46) [((.tmp 11), false)]), none⟩, ⟨(some 13), (.move (.tmp 12)), none⟩, ⟨(some 14), (.fieldAddr 5 (.tmp 2)), (some (13, true))⟩, ⟨(some 15), (.load none (.tmp 14)), (some (13, true))⟩, ⟨(some 16), (.len false (.tmp 15)), (some (13, true))⟩, ⟨(some 17), (.bin .eql (.tmp 16) (.const (.int .i64 0))), (some (13, true))⟩, ⟨(some 18), (.pick (.tmp 13) (.tmp 17) (.const (.bool false))), none⟩, ⟨(some 4), (.move (.tmp 18)), none⟩]) .ret) (.seq (.region [⟨(some 20), (.bin .eql (.tmp 8) (.const (.int .i64 1))), none⟩, ⟨(some 19), (.move (.tmp 20)), none⟩]) (.cond (.tmp 19) (.seq (.region [⟨(some 21), (.fieldAddr 5 (.tmp 2)), none⟩, ⟨(some 22), (.load none (.tmp 21)), none⟩, ⟨(some 23), (.len false (.tmp 22)), none⟩, ⟨(some 24), (.bin .eql (.tmp 23) (.const (.int .i64 0))), none⟩, ⟨(some 25), (.move (.tmp 24)), none⟩, ⟨(some 26), (.fieldAddr 1 (.tmp 2)), (some (25, true))⟩, ⟨(some 27), (.load none (.tmp 26)), (some (25, true))⟩, ⟨(some 28), (.bin .neq (.tmp 27) (.const (.int .i64 (-9223372036854775808)))), (some (25, true))⟩, ⟨(some 29), (.pick (.tmp 25) (.tmp 28) (.const (.bool false))), none⟩, ⟨(some 30), (.move (.tmp 29)), none⟩, ⟨(some 31), (.fieldAddr 2 (.tmp 2)), (some (30, true))⟩, ⟨(some 32), (.load none (.tmp 31)), (some (30, true))⟩, ⟨(some 33), (.bin .neq (.tmp 32) (.const (.int .i64 (-9223372036854775808)))), (some (30, true))⟩, ⟨(some 34), (.pick (.tmp 30) (.tmp 33) (.const (.bool false))), none⟩, ⟨(some 35), (.move (.tmp 34)), none⟩, ⟨(some 36), (.fieldAddr 3 (.tmp 2)), (some (35, true))⟩, ⟨(some 37), (.load none (.tmp 36)), (some (35, true))⟩, ⟨(some 38), (.un .not (.tmp 37)), (some (35, true))⟩, ⟨(some 39), (.move (.tmp 38)), (some (35, true))⟩, ⟨(some 40), (.fieldAddr 1 (.tmp 2)), (some (39, false))⟩, ⟨(some 41), (.load none (.tmp 40)), (some (39, false))⟩, ⟨(some 42), (.bin .eql (.tmp 41) (.const (.int .i64 0))), (some (39, false))⟩, ⟨(some 43), (.pick (.tmp 39) (.const (.bool true)) (.tmp 42)), (some (35, true))⟩, ⟨(some 44), (.pick (.tmp 35) (.tmp 43) (.const (.bool false))), none⟩, ⟨(some 45), (.move (.tmp 44)), none⟩, ⟨(some 46), (.fieldAddr 4 (.tmp 2)), (some (45, true))⟩, ⟨(some 47), (.load none (.tmp 46)), (some (45, true))⟩, ⟨(some 48), (.un .not (.tmp 47)), (some (45, true))⟩, ⟨(some 49), (.move (.tmp 48)), (some (45, true))⟩, ⟨(some 50), (.fieldAddr 2 (.tmp 2)), (some (49, false))⟩, ⟨(some 51), (.load none (.tmp 50)), (some (49, false))⟩, ⟨(some 52), (.bin .eql (.tmp 51) (.const (.int .i64 0))), (some (49, false))⟩, ⟨(some 53), (.pick (.tmp 49) (.const (.bool true)) (.tmp 52)), (some (45, true))⟩, ⟨(some 54), (.pick (.tmp 45) (.tmp 53) (.const (.bool false))), none⟩, ⟨(some 4), (.move (.tmp 54)), none⟩]) .ret) (.seq (.region [⟨(some 56), (.bin .eql (.tmp 8) (.const (.int .i64 4))), none⟩, ⟨(some 55), (.move (.tmp 56)), none⟩]) (.cond (.tmp 55) (.seq (.region [⟨(some 57), (.fieldAddr 5 (.tmp 2)), none⟩, ⟨(some 58), (.load none (.tmp 57)), none⟩, ⟨(some 59), (.len false (.tmp 58)), none⟩, ⟨(some 60), (.bin .neq (.tmp 59) (.const (.int .i64 2))), none⟩]) (.cond (.tmp 60) (.seq (.region [⟨(some 4), (.move (.const (.bool false))), none⟩]) .ret) .skip)) (.seq (.seq (.region [⟨(some 62), (.bin .eql (.tmp 8) (.const (.int .i64 2))), none⟩, ⟨(some 61), (.move (.tmp 62)), none⟩]) (.cond (.tmp 61) .skip (.region [⟨(some 63), (.bin .eql (.tmp 8) (.const (.int .i64 3))), none⟩, ⟨(some 61), (.move (.tmp 63)), none⟩]))) (.cond (.tmp 61) (.seq (.region [⟨(some 64), (.fieldAddr 5 (.tmp 2)), none⟩, ⟨(some 65), (.load none (.tmp 64)), none⟩, ⟨(some 66), (.len false (.tmp 65)), none⟩, ⟨(some 67), (.bin .lss (.tmp 66) (.const (.int .i64 2))), none⟩]) (.cond (.tmp 67) (.seq (.region [⟨(some 4), (.move (.const (.bool false))), none⟩]) .ret) .skip)) (.seq (.region [⟨(some 4), (.move (.const (.bool false))), none⟩]) .ret))))))))))) (.seq (.region [⟨(some 68), (.load (some 6) (.tmp 2)), none⟩, ⟨(some 69), (.call (.func 46) [((.tmp 68), false)]), none⟩, ⟨(some 70), (.move (.tmp 69)), none⟩, ⟨(some 71), (.fieldAddr 5 (.tmp 2)), (some (70, true))⟩, ⟨(some 72), (.load none (.tmp 71)), (some (70, true))⟩, ⟨(some 73), (.mkFunc (.func 48) [] [(.tmp 3)]), (some (70, true))⟩, ⟨(some 74), (.call (.func 47) [((.tmp 72), false), ((.tmp 73), false)]), (some (70, true))⟩, ⟨(some 75), (.un .not (.tmp 74)), (some (70, true))⟩, ⟨(some 76), (.pick (.tmp 70) (.tmp 75) (.const (.bool false))), none⟩, ⟨(some 4), (.move (.tmp 76)), none⟩]) .ret))))
theorem c25 : cfn E0.P [] Tryd.f25 = some (ac25, [(.tmp 4)], 77) := by kernel_rfl
/-- spandrel/shape.con$1 -/
def ac48 : ACode := (.seq (.region [⟨(some 2), (.box (.tmp 0)), none⟩, ⟨(some 3), (.move (.const (.bool false))), none⟩]) (.seq (.region [⟨(some 4), (.fieldAddr 0 (.tmp 2)), none⟩, ⟨(some 5), (.load none (.tmp 4)), none⟩, ⟨(some 6), (.bin .eql (.tmp 5) (.const (.int .i64 0))), none⟩, ⟨(some 7), (.move (.tmp 6)), none⟩, ⟨(some 8), (.load (some 6) (.tmp 2)), (some (7, false))⟩, ⟨(some 9), (.load none (.tmp 1)), (some (7, false))⟩, ⟨(some 10), (.bin .sub (.tmp 9) (.const (.int .i64 1))), (some (7, false))⟩, ⟨(some 11), (.call (.func 25) [((.tmp 8), false), ((.tmp 10), false)]), (some (7, false))⟩, ⟨(some 12), (.un .not (.tmp 11)), (some (7, false))⟩, ⟨(some 13), (.pick (.tmp 7) (.const (.bool true)) (.tmp 12)), none⟩, ⟨(some 3), (.move (.tmp 13)), none⟩]) .ret))
theorem c48 : cfn E0.P [] Tryd.f48 = some (ac48, [(.tmp 3)], 14) := by kernel_rfl

abbrev box1 (n : Int) : AObj := .cells [i64 n]
theorem dec_room (r : Nat) (h : r < 2 ^ 60) : IntKind.i64.wrap (((r + 1 : Nat) : Int) - 1) = (r : Int) := by rw [wrap_i64] <;> omega
theorem room_ne (r : Nat) : decide (((r + 1 : Nat) : Int) = 0) = false := by rw [decide_eq_false_iff_not]; omega

theorem room_0 : decide (((0 : Nat) : Int) = 0) = true := rfl
theorem con1_ev (r : Nat) (hr : r < 2 ^ 60) (ih : ∀ (c : Con) (h : List AObj), mxC c ≤ 2 ^ 48 → EvR E0 25 [conv c, i64 r] h (boolv (okCon r c)))
    (x : Con) (hx : mxC x ≤ 2 ^ 48) (h : List AObj) (id : Nat) (hid : h[id]? = some (box1 (r + 1 : Nat))) : EvR E0 48 [conv x, .ref id 0] h (boolv (decide (x.op = 0) || !okCon r x)) := by
  refine ev_of (fn := Tryd.f48) (hs := []) Tryd.func48 c48 (by simp) fun hcl => ?_
  have hw := dec_room r hr
  have hid' := fun o => app_get hid [o]
  have ihx := fun h => ih x h hx
  simp only [conv_eq] at ihx
  simp only [ac48, conv_eq, hid', hw, aw20, List.take_succ_cons, List.take_zero, List.drop_zero, List.drop_succ_cons, List.length_map, ↓awD, awP, Nat.reduceLeDiff, Nat.reduceEqDiff, Nat.reduceAdd, Nat.zero_add, Int.cast_ofNat_Int, Int.reduceLT, Int.reduceLE, Int.reduceEq]
  repeat' (first | ((first | refine EvF.ret (ihx _) ?_ | refine EvRF.ret (ihx _) ?_); simp only [hw, aw21, aw20, List.take_succ_cons, List.take_zero, List.drop_zero, List.drop_succ_cons, List.length_map, ↓awD, awP, Nat.reduceLeDiff, Nat.reduceEqDiff, Nat.reduceAdd, Nat.zero_add, Int.cast_ofNat_Int, Int.reduceLT, Int.reduceLE, Int.reduceEq]) | (refine BrF.mk (fun hb => ?_) (fun hb => ?_) <;> (try rw [hb]) <;> simp only [hid', hw, aw21, aw20, List.take_succ_cons, List.take_zero, List.drop_zero, List.drop_succ_cons, List.length_map, ↓awD, awP, Nat.reduceLeDiff, Nat.reduceEqDiff, Nat.reduceAdd, Nat.zero_add, Int.cast_ofNat_Int, Int.reduceLT, Int.reduceLE, Int.reduceEq]))
  all_goals (refine Fin.end hcl rfl (by first | rfl | exact (List.append_nil _).symm | (simp only [List.append_assoc]; rfl)) ⟨?_, rfl⟩; first | rfl | ((try simp only [dnat, decide_eq_true_eq, decide_eq_false_iff_not, List.length_eq_zero_iff, List.length_pos_iff] at *); first | (simp [*, hw]; done) | (simp [*, hw]; omega) | (clear hcl; simp [*, hw] <;> grind) | (simp [*, hw])))

set_option maxHeartbeats 2000000 in
theorem con_ev : ∀ (r : Nat), r < 2 ^ 60 → ∀ (c : Con) (h : List AObj), mxC c ≤ 2 ^ 48 → EvR E0 25 [conv c, i64 r] h (boolv (okCon r c)) := by
  intro r
  induction r with
  | zero =>
    intro _ c h _
    refine ev_of (fn := Tryd.f25) (hs := []) Tryd.func25 c25 (by simp) fun hcl => ?_
    simp only [ac25, conv_eq, room_0, aw20, List.take_succ_cons, List.take_zero, List.drop_zero, List.drop_succ_cons, List.length_map, ↓awD, awP, Nat.reduceLeDiff, Nat.reduceEqDiff, Nat.reduceAdd, Nat.zero_add, Int.cast_ofNat_Int, Int.reduceLT, Int.reduceLE, Int.reduceEq]
    exact Fin.end hcl rfl (by first | rfl | exact (List.append_nil _).symm | (simp only [List.append_assoc]; rfl)) ⟨rfl, rfl⟩
  | succ r ih =>
    intro hr c h hc
    have ih := ih (by omega)
    refine ev_of (fn := Tryd.f25) (hs := []) Tryd.func25 c25 (by simp) fun hcl => ?_
    have hlen := mxCs_len c.l
    have hmx := mxC_eq c
    have hrn := room_ne r
    have hany := con_any c.l 48 [.ref (h ++ [AObj.cells [i64 c.op, i64 c.lo, i64 c.hi, boolv c.low, boolv c.high, conl c.l]]).length 0] (fun x => decide (x.op = 0) || !okCon r x)
      (h ++ [AObj.cells [i64 c.op, i64 c.lo, i64 c.hi, boolv c.low, boolv c.high, conl c.l]] ++ [box1 (r + 1 : Nat)]) (by omega)
      (fun s hs => con1_ev r (by omega) ih s (by have := mxCs_mem hs; omega) _ _ (last_obj _ _))
    have hbare := fun h => bare_ev c h
    simp only [conv_eq] at hbare
    simp only [ac25, conv_eq, hrn, aw20, List.take_succ_cons, List.take_zero, List.drop_zero, List.drop_succ_cons, List.length_map, ↓awD, awP, Nat.reduceLeDiff, Nat.reduceEqDiff, Nat.reduceAdd, Nat.zero_add, Int.cast_ofNat_Int, Int.reduceLT, Int.reduceLE, Int.reduceEq]
    repeat' (first | ((first | refine EvF.ret (hbare _) ?_ | refine EvRF.ret (hbare _) ?_); simp only [hrn, aw21, aw20, List.take_succ_cons, List.take_zero, List.drop_zero, List.drop_succ_cons, List.length_map, ↓awD, awP, Nat.reduceLeDiff, Nat.reduceEqDiff, Nat.reduceAdd, Nat.zero_add, Int.cast_ofNat_Int, Int.reduceLT, Int.reduceLE, Int.reduceEq]) | ((first | refine EvF.ret (hany) ?_ | refine EvRF.ret (hany) ?_); simp only [hrn, aw21, aw20, List.take_succ_cons, List.take_zero, List.drop_zero, List.drop_succ_cons, List.length_map, ↓awD, awP, Nat.reduceLeDiff, Nat.reduceEqDiff, Nat.reduceAdd, Nat.zero_add, Int.cast_ofNat_Int, Int.reduceLT, Int.reduceLE, Int.reduceEq]) | (refine BrF.mk (fun hb => ?_) (fun hb => ?_) <;> (try rw [hb]) <;> simp only [hrn, aw21, aw20, List.take_succ_cons, List.take_zero, List.drop_zero, List.drop_succ_cons, List.length_map, ↓awD, awP, Nat.reduceLeDiff, Nat.reduceEqDiff, Nat.reduceAdd, Nat.zero_add, Int.cast_ofNat_Int, Int.reduceLT, Int.reduceLE, Int.reduceEq]))
    all_goals (refine Fin.end hcl rfl (by first | rfl | exact (List.append_nil _).symm | (simp only [List.append_assoc]; rfl)) ⟨?_, rfl⟩; first | rfl | ((try simp only [dnat, decide_eq_true_eq, decide_eq_false_iff_not, List.length_eq_zero_iff, List.length_pos_iff] at *); first | (simp [*, okCon, okCf, least]; done) | (simp [*, okCon, okCf, least]; omega) | (clear hcl; simp [*, okCon, okCf, least] <;> grind) | (simp [*, okCon, okCf, least])))
end Go.Abs.Fr

namespace Go.Abs.Fr
open Go Go.Abs Go.Proofs
set_option linter.unusedSimpArgs false
set_option maxRecDepth 100000

/-- spandrel/shape.Depth -/
def ac9 : ACode := (.seq (.region [⟨(some 1), (.box (.tmp 0)), none⟩, ⟨(some 2), (.move (.const (.int .i64 0))), none⟩]) (.seq (.region [⟨(some 3), (.load (some 15) (.tmp 1)), none⟩, ⟨(some 4), (.call (.func 20) [((.tmp 3), false), ((.const (.int .i64 41)), false)]), none⟩, ⟨(some 2), (.move (.tmp 4)), none⟩]) .ret))
theorem c9 : cfn E0.P [] Tryd.f9 = some (ac9, [(.tmp 2)], 5) := by kernel_rfl
/-- spandrel/shape.depth -/
def ac20 : ACode := (.seq (.region [⟨(some 2), (.box (.tmp 0)), none⟩, ⟨(some 4), (.move (.const (.int .i64 0))), none⟩]) (.seq (.seq (.region [⟨(some 12), (.move (.tmp 1)), none⟩, ⟨(some 13), (.bin .eql (.tmp 12) (.const (.int .i64 0))), none⟩]) (.cond (.tmp 13) (.seq (.region [⟨(some 4), (.move (.const (.int .i64 0))), none⟩]) .ret) .skip)) (.seq (.region [⟨(some 5), (.move (.const (.int .i64 0))), none⟩]) (.seq (.seq (.region [⟨(some 14), (.fieldAddr 12 (.tmp 2)), none⟩, ⟨(some 15), (.load none (.tmp 14)), none⟩, ⟨(some 16), (.fieldAddr 13 (.tmp 2)), none⟩, ⟨(some 17), (.load none (.tmp 16)), none⟩, ⟨(some 18), (.buildSlice false 1 [(.sl .full [])] 2 [(0, (.tmp 15)), (1, (.tmp 17))]), none⟩, ⟨(some 19), (.len false (.tmp 18)), none⟩, ⟨(some 20), (.move (.const (.int .i64 0))), none⟩]) (.block 0 (.loop (.seq (.region [⟨(some 21), (.bin .lss (.tmp 20) (.tmp 19)), none⟩]) (.seq (.cond (.tmp 21) .skip (.exit 0)) (.seq (.block 1 (.seq (.region [⟨(some 22), (.indexAddr 1 (.tmp 18) (.tmp 20)), none⟩, ⟨(some 23), (.load none (.tmp 22)), none⟩, ⟨(some 7), (.move (.tmp 23)), none⟩]) (.seq (.region [⟨(some 24), (.move (.tmp 7)), none⟩, ⟨(some 25), (.len false (.tmp 24)), none⟩, ⟨(some 26), (.move (.const (.int .i64 0))), none⟩]) (.block 2 (.loop (.seq (.region [⟨(some 27), (.bin .lss (.tmp 26) (.tmp 25)), none⟩]) (.seq (.cond (.tmp 27) .skip (.exit 2)) (.seq (.block 3 (.seq (.region [⟨(some 28), (.indexAddr 18 (.tmp 24) (.tmp 26)), none⟩, ⟨(some 29), (.load (some 18) (.tmp 28)), none⟩, ⟨(some 9), (.alloc [(.lit (.string (⟨#[]⟩ : ByteArray))), (.lit (.int .i64 0)), (.lit (.string (⟨#[]⟩ : ByteArray))), (.lit (.int .i64 0)), (.lit (.int .i64 0)), (.lit (.int .i64 0)), (.lit (.bool false)), (.lit (.bool false)), (.sl .full []), (.lit (.bool false)), (.lit (.string (⟨#[]⟩ : ByteArray))), (.sl .full []), (.sl .full []), (.sl .full []), (.sl .full []), (.sl .full []), (.lit (.bool false)), (.sl .full [])]), none⟩, ⟨none, (.store 18 (.tmp 9) (.tmp 29)), none⟩]) (.region [⟨(some 30), (.move (.tmp 5)), none⟩, ⟨(some 31), (.fieldAddr 1 (.tmp 9)), none⟩, ⟨(some 32), (.load (some 15) (.tmp 31)), none⟩, ⟨(some 33), (.move (.tmp 1)), none⟩, ⟨(some 34), (.bin .sub (.tmp 33) (.const (.int .i64 1))), none⟩, ⟨(some 35), (.call (.func 20) [((.tmp 32), false), ((.tmp 34), false)]), none⟩, ⟨(some 36), (.minmax true (.tmp 30) (.tmp 35)), none⟩, ⟨(some 5), (.move (.tmp 36)), none⟩]))) (.region [⟨(some 37), (.bin .add (.tmp 26) (.const (.int .i64 1))), none⟩, ⟨(some 26), (.move (.tmp 37)), none⟩]))))))))) (.region [⟨(some 38), (.bin .add (.tmp 20) (.const (.int .i64 1))), none⟩, ⟨(some 20), (.move (.tmp 38)), none⟩]))))))) (.seq (.seq (.region [⟨(some 39), (.fieldAddr 14 (.tmp 2)), none⟩, ⟨(some 40), (.load none (.tmp 39)), none⟩, ⟨(some 41), (.len false (.tmp 40)), none⟩, ⟨(some 42), (.move (.const (.int .i64 0))), none⟩]) (.block 4 (.loop (.seq (.region [⟨(some 43), (.bin .lss (.tmp 42) (.tmp 41)), none⟩]) (.seq (.cond (.tmp 43) .skip (.exit 4)) (.seq (.block 5 (.seq (.region [⟨(some 44), (.indexAddr 15 (.tmp 40) (.tmp 42)), none⟩, ⟨(some 45), (.load (some 15) (.tmp 44)), none⟩, ⟨(some 11), (.alloc [(.lit (.int .i64 0)), (.lit (.string (⟨#[]⟩ : ByteArray))), (.lit (.int .i64 0)), (.lit (.int .i64 0)), (.lit (.int .i64 0)), (.lit (.bool false)), (.lit (.bool false)), (.sl .full []), (.lit (.bool false)), (.lit (.string (⟨#[]⟩ : ByteArray))), (.sl .full []), (.sl .full []), (.sl .full []), (.sl .full []), (.sl .full [])]), none⟩, ⟨none, (.store 15 (.tmp 11) (.tmp 45)), none⟩]) (.region [⟨(some 46), (.move (.tmp 5)), none⟩, ⟨(some 47), (.load (some 15) (.tmp 11)), none⟩, ⟨(some 48), (.move (.tmp 1)), none⟩, ⟨(some 49), (.bin .sub (.tmp 48) (.const (.int .i64 1))), none⟩, ⟨(some 50), (.call (.func 20) [((.tmp 47), false), ((.tmp 49), false)]), none⟩, ⟨(some 51), (.minmax true (.tmp 46) (.tmp 50)), none⟩, ⟨(some 5), (.move (.tmp 51)), none⟩]))) (.region [⟨(some 52), (.bin .add (.tmp 42) (.const (.int .i64 1))), none⟩, ⟨(some 42), (.move (.tmp 52)), none⟩]))))))) (.seq (.region [⟨(some 53), (.move (.tmp 5)), none⟩, ⟨(some 54), (.bin .add (.tmp 53) (.const (.int .i64 1))), none⟩, ⟨(some 4), (.move (.tmp 54)), none⟩]) .ret))))))
theorem c20 : cfn E0.P [] Tryd.f20 = some (ac20, [(.tmp 4)], 55) := by kernel_rfl

theorem max_nat (a b : Nat) : (if (b : Int) > (a : Int) then (b : Int) else (a : Int)) = ((max a b : Nat) : Int) := by
  split <;> omega

theorem depth_ev : ∀ (r : Nat), r < 2 ^ 60 → ∀ (t : Ty) (h : List AObj), mxT t ≤ 2 ^ 48 → EvR E0 20 [tyv t, i64 r] h (i64 (depTy r t)) := by
  intro r
  induction r with
  | zero =>
    intro _ t h _
    refine ev_of (fn := Tryd.f20) (hs := []) Tryd.func20 c20 (by simp) fun hcl => ?_
    simp only [ac20, tyv_eq, room_0, aw20, List.take_succ_cons, List.take_zero, List.drop_zero, List.drop_succ_cons, List.length_map, ↓awD, awP, Nat.reduceLeDiff, Nat.reduceEqDiff, Nat.reduceAdd, Nat.zero_add, Int.cast_ofNat_Int, Int.reduceLT, Int.reduceLE, Int.reduceEq]
    all_goals (refine Fin.end hcl rfl (by first | rfl | exact (List.append_nil _).symm | (simp only [List.append_assoc]; rfl)) ⟨?_, rfl⟩; first | rfl | ((try simp only [dnat, decide_eq_true_eq, decide_eq_false_iff_not, List.length_eq_zero_iff, List.length_pos_iff] at *); first | (simp [*, depTy]; done) | (simp [*, depTy]; omega) | (clear hcl; simp [*, depTy] <;> grind) | (simp [*, depTy])))
  | succ r ih =>
    intro hr t h ht
    have ih := ih (by omega)
    refine ev_of (fn := Tryd.f20) (hs := []) Tryd.func20 c20 (by simp) fun hcl => ?_
    have hm := mxT_le t
    have hrn := room_ne r
    have hw := dec_room r (by omega)
    have hmP1 := mxPs_len t.parts
    have hmP2 := mxPs_len t.adds
    have hmT := mxTs_len t.elem
    simp only [ac20, tyv_eq, hrn, aw20, List.take_succ_cons, List.take_zero, List.drop_zero, List.drop_succ_cons, List.length_map, ↓awD, awP, Nat.reduceLeDiff, Nat.reduceEqDiff, Nat.reduceAdd, Nat.zero_add, Int.cast_ofNat_Int, Int.reduceLT, Int.reduceLE, Int.reduceEq]
    (refine Need.mk (by simp only [litParts, List.mem_cons, List.not_mem_nil, or_false, forall_eq_or_imp, forall_eq]; refine ⟨by decide, by decide, by decide, ?_⟩; repeat' (first | exact ⟨rfl, rfl, rfl⟩ | rfl | constructor)) ?_; simp only [hrn, aw20, List.take_succ_cons, List.take_zero, List.drop_zero, List.drop_succ_cons, List.length_map, ↓awD, awP, Nat.reduceLeDiff, Nat.reduceEqDiff, Nat.reduceAdd, Nat.zero_add, Int.cast_ofNat_Int, Int.reduceLT, Int.reduceLE, Int.reduceEq])
    generalize hT : AObj.cells [AV.lit (Value.int IntKind.i64 t.kind), AV.lit (Value.string t.name), AV.lit (Value.int IntKind.i64 t.con.op), AV.lit (Value.int IntKind.i64 t.con.lo), AV.lit (Value.int IntKind.i64 t.con.hi), AV.lit (Value.bool t.con.low), AV.lit (Value.bool t.con.high),
      conl t.con.l, AV.lit (Value.bool t.ext), AV.lit (Value.string t.frm), strl t.names, strl t.more, prtl t.parts, prtl t.adds, tyl t.elem] = T
    refine LoopF.list [t.parts, t.adds] (show 2 < 2 ^ 60 by decide) (γ := Nat × List AObj) (fun i g => ⟨[(1, i64 (r + 1 : Nat)), (2, .ref h.length 0), (5, i64 g.1), (18, .sl .full [prtl t.parts, prtl t.adds]), (19, i64 2), (20, i64 i)], h ++ [T] ++ g.2⟩)
      (fun i g => g.1 ≤ r ∧ ([t.parts, t.adds].drop i).foldl (fun b l => depP (depTy r) l b) g.1 = depP (depTy r) t.adds (depP (depTy r) t.parts 0)) (0, []) ⟨Nat.zero_le _, rfl⟩ (weak_of (by simp) (by simp [look])) ?_ ?_
    · rintro i l ⟨acc, J⟩ hl ⟨ha, hv⟩ hi e1 w3
      have hga : [prtl t.parts, prtl t.adds][i]? = some (prtl l) := map_get prtl [t.parts, t.adds] i l hl
      have hml : mxPs l ≤ 2 ^ 48 := by
        have := List.mem_of_getElem? hl
        simp only [List.mem_cons, List.not_mem_nil, or_false] at this
        rcases this with rfl | rfl <;> omega
      have hll := mxPs_len l
      rw [drop_get hl] at hv
      simp only [List.foldl_cons, List.length_cons, List.length_nil, Nat.zero_add, Nat.reduceAdd, Int.cast_ofNat_Int] at hv e1 hi
      simp only [e1, aw20, List.take_succ_cons, List.take_zero, List.drop_zero, List.drop_succ_cons, List.length_map, ↓awD, awP, Nat.reduceLeDiff, Nat.reduceEqDiff, Nat.reduceAdd, Nat.zero_add, Int.cast_ofNat_Int, Int.reduceLT, Int.reduceLE, Int.reduceEq]
      repeat' ((first | refine Need.mk (by first | (first | omega | (simp only [decide_eq_true_eq, decide_eq_false_iff_not, Bool.and_eq_true, Bool.not_eq_true', Bool.not_eq_false', List.length_map] at *; omega) | (simp; omega)) | (constructor <;> (first | omega | (simp only [decide_eq_true_eq, decide_eq_false_iff_not, Bool.and_eq_true, Bool.not_eq_true', Bool.not_eq_false', List.length_map] at *; omega) | (simp; omega)))) (Elem.recs hga (by first | (rw [prtl]; exact ⟨rfl, rfl⟩) | exact ⟨rfl, rfl⟩) ?_) | refine Elem.recs hga (by first | (rw [prtl]; exact ⟨rfl, rfl⟩) | exact ⟨rfl, rfl⟩) ?_); simp only [prtl, aw21, aw21, aw20, List.take_succ_cons, List.take_zero, List.drop_zero, List.drop_succ_cons, List.length_map, ↓awD, awP, Nat.reduceLeDiff, Nat.reduceEqDiff, Nat.reduceAdd, Nat.zero_add, Int.cast_ofNat_Int, Int.reduceLT, Int.reduceLE, Int.reduceEq])
      refine LoopF.list l (by omega) (γ := Nat × List AObj) (fun j g => ⟨[(1, i64 (r + 1 : Nat)), (2, .ref h.length 0), (5, i64 g.1), (18, .sl .full [prtl t.parts, prtl t.adds]), (19, i64 2), (20, i64 i), (24, prtl l), (25, i64 l.length), (26, i64 j)], h ++ [T] ++ g.2⟩)
        (fun j g => g.1 ≤ r ∧ depP (depTy r) (l.drop j) g.1 = depP (depTy r) l acc) (acc, J) ⟨ha, rfl⟩ (weak_of (by simp) (by simp [look])) ?_ ?_
      · rintro j p ⟨acc', J'⟩ hp ⟨ha', hv'⟩ hj f1 v3
        have hgp := map_get prtv l j p hp
        have hmp := mxPs_mem (List.mem_of_getElem? hp)
        have hmq := mxP_le p
        have hdl := depTy_le r p.t
        have hc := fun h => ih p.t h (by omega)
        simp only [tyv_eq] at hc
        rw [drop_get hp] at hv'
        replace hv' : depP (depTy r) (l.drop (j + 1)) (max acc' (depTy r p.t)) = depP (depTy r) l acc := hv'
        simp only [f1, aw20, List.take_succ_cons, List.take_zero, List.drop_zero, List.drop_succ_cons, List.length_map, ↓awD, awP, Nat.reduceLeDiff, Nat.reduceEqDiff, Nat.reduceAdd, Nat.zero_add, Int.cast_ofNat_Int, Int.reduceLT, Int.reduceLE, Int.reduceEq]
        repeat' (first | ((first | refine Need.mk (by first | (first | omega | (simp only [decide_eq_true_eq, decide_eq_false_iff_not, Bool.and_eq_true, Bool.not_eq_true', Bool.not_eq_false', List.length_map] at *; omega) | (simp; omega)) | (constructor <;> (first | omega | (simp only [decide_eq_true_eq, decide_eq_false_iff_not, Bool.and_eq_true, Bool.not_eq_true', Bool.not_eq_false', List.length_map] at *; omega) | (simp; omega)))) (Elem.recs hgp (by first | (rw [prtv_eq]; exact ⟨rfl, rfl⟩) | exact ⟨rfl, rfl⟩) ?_) | refine Elem.recs hgp (by first | (rw [prtv_eq]; exact ⟨rfl, rfl⟩) | exact ⟨rfl, rfl⟩) ?_); simp only [prtv_eq, hw, aw21, aw20, List.take_succ_cons, List.take_zero, List.drop_zero, List.drop_succ_cons, List.length_map, ↓awD, awP, Nat.reduceLeDiff, Nat.reduceEqDiff, Nat.reduceAdd, Nat.zero_add, Int.cast_ofNat_Int, Int.reduceLT, Int.reduceLE, Int.reduceEq]) | ((first | refine EvF.ret (hc _) ?_ | refine EvRF.ret (hc _) ?_); simp only [v3, max_nat, aw21, aw20, List.take_succ_cons, List.take_zero, List.drop_zero, List.drop_succ_cons, List.length_map, ↓awD, awP, Nat.reduceLeDiff, Nat.reduceEqDiff, Nat.reduceAdd, Nat.zero_add, Int.cast_ofNat_Int, Int.reduceLT, Int.reduceLE, Int.reduceEq]))
        exact ⟨(j + 1, (max acc' (depTy r p.t), J' ++ [_])), ⟨hj, ⟨by simp only at ha' ⊢; omega, hv'⟩⟩, by simp only; omega, weak_of (app1J (h ++ [T]) J' _ |>.symm) (by simp [look])⟩
      · rintro ⟨acc', J'⟩ ⟨ha', hv'⟩ f1
        rw [drop_len] at hv'
        replace hv' : acc' = depP (depTy r) l acc := hv'
        subst hv'
        simp only [f1, w3, aw20, List.take_succ_cons, List.take_zero, List.drop_zero, List.drop_succ_cons, List.length_map, ↓awD, awP, Nat.reduceLeDiff, Nat.reduceEqDiff, Nat.reduceAdd, Nat.zero_add, Int.cast_ofNat_Int, Int.reduceLT, Int.reduceLE, Int.reduceEq]
        exact ⟨(i + 1, (depP (depTy r) l acc, J')), ⟨hi, ⟨ha', hv⟩⟩, by simp only; omega, weak_of (rfl) (by simp [look])⟩
    · rintro ⟨acc, J⟩ ⟨ha, hv⟩ e1
      replace hv : acc = depP (depTy r) t.adds (depP (depTy r) t.parts 0) := hv
      simp only [List.length_cons, List.length_nil, Nat.zero_add, Nat.reduceAdd, Int.cast_ofNat_Int] at e1
      have hget : ∀ J : List AObj, (h ++ [T] ++ J)[h.length]? = some T := fun J => by rw [List.append_assoc]; simp
      have hmo : ∀ K t', mObj (some T) K t' = K [AV.lit (Value.int IntKind.i64 t.kind), AV.lit (Value.string t.name), AV.lit (Value.int IntKind.i64 t.con.op), AV.lit (Value.int IntKind.i64 t.con.lo), AV.lit (Value.int IntKind.i64 t.con.hi), AV.lit (Value.bool t.con.low), AV.lit (Value.bool t.con.high),
        conl t.con.l, AV.lit (Value.bool t.ext), AV.lit (Value.string t.frm), strl t.names, strl t.more, prtl t.parts, prtl t.adds, tyl t.elem] := fun K t' => by rw [← hT]; rfl
      simp only [e1, hget, hmo, aw20, List.take_succ_cons, List.take_zero, List.drop_zero, List.drop_succ_cons, List.length_map, ↓awD, awP, Nat.reduceLeDiff, Nat.reduceEqDiff, Nat.reduceAdd, Nat.zero_add, Int.cast_ofNat_Int, Int.reduceLT, Int.reduceLE, Int.reduceEq]
      refine LoopF.list t.elem (by omega) (γ := Nat × List AObj) (fun j g => ⟨[(1, i64 (r + 1 : Nat)), (5, i64 g.1), (40, tyl t.elem), (41, i64 t.elem.length), (42, i64 j)], h ++ [T] ++ g.2⟩)
        (fun j g => g.1 ≤ r ∧ depT (depTy r) (t.elem.drop j) g.1 = depT (depTy r) t.elem acc) (acc, J) ⟨ha, rfl⟩ (weak_of (by simp) (by simp [look])) ?_ ?_
      · rintro j p ⟨acc', J'⟩ hp ⟨ha', hv'⟩ hj f1 v3
        have hgp := map_get tyv t.elem j p hp
        have hmp := mxTs_mem (List.mem_of_getElem? hp)
        have hdl := depTy_le r p
        have hc := fun h => ih p h (by omega)
        simp only [tyv_eq] at hc
        rw [drop_get hp] at hv'
        replace hv' : depT (depTy r) (t.elem.drop (j + 1)) (max acc' (depTy r p)) = depT (depTy r) t.elem acc := hv'
        simp only [f1, aw20, List.take_succ_cons, List.take_zero, List.drop_zero, List.drop_succ_cons, List.length_map, ↓awD, awP, Nat.reduceLeDiff, Nat.reduceEqDiff, Nat.reduceAdd, Nat.zero_add, Int.cast_ofNat_Int, Int.reduceLT, Int.reduceLE, Int.reduceEq]
        repeat' (first | ((first | refine Need.mk (by first | (first | omega | (simp only [decide_eq_true_eq, decide_eq_false_iff_not, Bool.and_eq_true, Bool.not_eq_true', Bool.not_eq_false', List.length_map] at *; omega) | (simp; omega)) | (constructor <;> (first | omega | (simp only [decide_eq_true_eq, decide_eq_false_iff_not, Bool.and_eq_true, Bool.not_eq_true', Bool.not_eq_false', List.length_map] at *; omega) | (simp; omega)))) (Elem.recs hgp (by first | (rw [tyv_eq]; exact ⟨rfl, rfl⟩) | exact ⟨rfl, rfl⟩) ?_) | refine Elem.recs hgp (by first | (rw [tyv_eq]; exact ⟨rfl, rfl⟩) | exact ⟨rfl, rfl⟩) ?_); simp only [tyv_eq, hw, aw21, aw20, List.take_succ_cons, List.take_zero, List.drop_zero, List.drop_succ_cons, List.length_map, ↓awD, awP, Nat.reduceLeDiff, Nat.reduceEqDiff, Nat.reduceAdd, Nat.zero_add, Int.cast_ofNat_Int, Int.reduceLT, Int.reduceLE, Int.reduceEq]) | ((first | refine EvF.ret (hc _) ?_ | refine EvRF.ret (hc _) ?_); simp only [v3, max_nat, aw21, aw20, List.take_succ_cons, List.take_zero, List.drop_zero, List.drop_succ_cons, List.length_map, ↓awD, awP, Nat.reduceLeDiff, Nat.reduceEqDiff, Nat.reduceAdd, Nat.zero_add, Int.cast_ofNat_Int, Int.reduceLT, Int.reduceLE, Int.reduceEq]))
        exact ⟨(j + 1, (max acc' (depTy r p), J' ++ [_])), ⟨hj, ⟨by simp only at ha' ⊢; omega, hv'⟩⟩, by simp only; omega, weak_of (app1J (h ++ [T]) J' _ |>.symm) (by simp [look])⟩
      · rintro ⟨acc', J'⟩ ⟨ha', hv'⟩ f1
        rw [drop_len] at hv'
        replace hv' : acc' = depT (depTy r) t.elem acc := hv'
        have w4 : IntKind.i64.wrap ((acc' : Int) + 1) = ((acc' + 1 : Nat) : Int) := by simp only at ha'; rw [wrap_i64] <;> omega
        simp only [f1, w4, aw20, List.take_succ_cons, List.take_zero, List.drop_zero, List.drop_succ_cons, List.length_map, ↓awD, awP, Nat.reduceLeDiff, Nat.reduceEqDiff, Nat.reduceAdd, Nat.zero_add, Int.cast_ofNat_Int, Int.reduceLT, Int.reduceLE, Int.reduceEq]
        refine Fin.end hcl rfl (by first | rfl | exact (List.append_nil _).symm | (simp only [List.append_assoc]; rfl)) ⟨?_, rfl⟩
        rw [hv', hv]
        rfl

theorem sdepth_ev (t : Ty) (ht : mxT t ≤ 2 ^ 48) (h : List AObj) : EvR E0 9 [tyv t] h (i64 (depTy 41 t)) := by
  refine ev_of (fn := Tryd.f9) (hs := []) Tryd.func9 c9 (by simp) fun hcl => ?_
  have h1 := fun h => depth_ev 41 (by omega) t h ht
  simp only [tyv_eq] at h1
  simp only [ac9, tyv_eq, aw20, List.take_succ_cons, List.take_zero, List.drop_zero, List.drop_succ_cons, List.length_map, ↓awD, awP, Nat.reduceLeDiff, Nat.reduceEqDiff, Nat.reduceAdd, Nat.zero_add, Int.cast_ofNat_Int, Int.reduceLT, Int.reduceLE, Int.reduceEq]
  repeat' ((first | refine EvF.ret (h1 _) ?_ | refine EvRF.ret (h1 _) ?_); simp only [aw21, aw21, aw20, List.take_succ_cons, List.take_zero, List.drop_zero, List.drop_succ_cons, List.length_map, ↓awD, awP, Nat.reduceLeDiff, Nat.reduceEqDiff, Nat.reduceAdd, Nat.zero_add, Int.cast_ofNat_Int, Int.reduceLT, Int.reduceLE, Int.reduceEq])
  all_goals (refine Fin.end hcl rfl (by first | rfl | exact (List.append_nil _).symm | (simp only [List.append_assoc]; rfl)) ⟨?_, rfl⟩; first | rfl | ((try simp only [dnat, decide_eq_true_eq, decide_eq_false_iff_not, List.length_eq_zero_iff, List.length_pos_iff] at *); first | (simp [*, aw21]; done) | (simp [*, aw21]; omega) | (clear hcl; simp [*, aw21] <;> grind) | (simp [*, aw21])))
end Go.Abs.Fr

namespace Go.Abs.Fr
open Go Go.Abs Go.Proofs
set_option linter.unusedSimpArgs false
set_option maxRecDepth 100000

mutual
def fewC : Con → Int → Int
  | .mk _ _ _ _ _ l _, n => fewCs l (n - 1)
def fewCs : List Con → Int → Int
  | [], n => n
  | c :: l, n => if 0 ≤ n then fewCs l (fewC c n) else n
end
mutual
def fewV : Val → Int → Int
  | .mk _ _ _ ns l _, n => fewVs l (n - 1 - ns.length)
def fewVs : List Val → Int → Int
  | [], n => n
  | c :: l, n => if 0 ≤ n then fewVs l (fewV c n) else n
end
mutual
def fewT : Ty → Int → Int
  | .mk _ _ c _ _ ns ms ps ad el _, n => fewTs el (fewPs ad (fewPs ps (fewC c (n - 1 - ns.length - ms.length))))
def fewP : Prt → Int → Int
  | .mk _ t _ d, n => fewT t (fewVs d (n - 1))
def fewPs : List Prt → Int → Int
  | [], n => n
  | c :: l, n => if 0 ≤ n then fewPs l (fewP c n) else n
def fewTs : List Ty → Int → Int
  | [], n => n
  | c :: l, n => if 0 ≤ n then fewTs l (fewT c n) else n
end
theorem fewC_eq (c : Con) (n : Int) : fewC c n = fewCs c.l (n - 1) := by cases c; simp only [fewC]; rfl
theorem fewV_eq (v : Val) (n : Int) : fewV v n = fewVs v.l (n - 1 - v.names.length) := by cases v; simp only [fewV]; rfl
theorem fewT_eq (t : Ty) (n : Int) : fewT t n = fewTs t.elem (fewPs t.adds (fewPs t.parts (fewC t.con (n - 1 - t.names.length - t.more.length)))) := by cases t; simp only [fewT]; rfl
theorem fewP_eq (p : Prt) (n : Int) : fewP p n = fewT p.t (fewVs p.dfl (n - 1)) := by cases p; simp only [fewP]; rfl
theorem fewCs_neg {l : List Con} {n : Int} (h : ¬ 0 ≤ n) : fewCs l n = n := by cases l <;> simp [fewCs, h]
theorem fewVs_neg {l : List Val} {n : Int} (h : ¬ 0 ≤ n) : fewVs l n = n := by cases l <;> simp [fewVs, h]
theorem fewPs_neg {l : List Prt} {n : Int} (h : ¬ 0 ≤ n) : fewPs l n = n := by cases l <;> simp [fewPs, h]
theorem fewTs_neg {l : List Ty} {n : Int} (h : ¬ 0 ≤ n) : fewTs l n = n := by cases l <;> simp [fewTs, h]

/-! ### Bounds; sizes -/
mutual
theorem fewC_b : ∀ (c : Con) (n : Int), -(2 : Int) ^ 51 ≤ n → -(2 : Int) ^ 51 - 1 ≤ fewC c n ∧ fewC c n ≤ n ∧ (0 ≤ fewC c n → (szC c : Int) ≤ n - fewC c n)
  | .mk a b c d e l ok, n, h => by
    have h1 := fewCs_b l (n - 1) (by omega)
    simp only [fewC, szC]
    refine ⟨by omega, by omega, fun h0 => ?_⟩
    have := h1.2.2 h0
    omega
theorem fewCs_b : ∀ (l : List Con) (n : Int), -(2 : Int) ^ 51 - 1 ≤ n → -(2 : Int) ^ 51 - 1 ≤ fewCs l n ∧ fewCs l n ≤ n ∧ (0 ≤ fewCs l n → (szCs l : Int) ≤ n - fewCs l n)
  | [], n, h => by simp only [fewCs, szCs]; omega
  | c :: l, n, h => by
    by_cases h0 : 0 ≤ n
    · have h1 := fewC_b c n (by omega)
      have h2 := fewCs_b l (fewC c n) (by omega)
      simp only [fewCs, if_pos h0, szCs]
      refine ⟨h2.1, by omega, fun h3 => ?_⟩
      have h4 := h2.2.2 h3
      have h5 := h1.2.2 (by omega)
      omega
    · simp only [fewCs, if_neg h0]
      exact ⟨h, Int.le_refl _, fun h3 => absurd h3 h0⟩
end
mutual
theorem fewV_b : ∀ (c : Val) (n : Int), mxV c ≤ 2 ^ 48 → 0 ≤ n → -(2 : Int) ^ 49 ≤ fewV c n ∧ fewV c n ≤ n ∧ (0 ≤ fewV c n → (szV c : Int) ≤ n - fewV c n)
  | .mk a b s ns l ok, n, hm, h => by
    simp only [mxV] at hm
    have hl := mxB_len ns
    have h1 := fewVs_b l (n - 1 - ns.length) (by omega) (by omega)
    simp only [fewV, szV]
    refine ⟨by omega, by omega, fun h0 => ?_⟩
    have := h1.2.2 h0
    omega
theorem fewVs_b : ∀ (l : List Val) (n : Int), mxVs l ≤ 2 ^ 48 → -(2 : Int) ^ 49 ≤ n → -(2 : Int) ^ 49 ≤ fewVs l n ∧ fewVs l n ≤ n ∧ (0 ≤ fewVs l n → (szVs l : Int) ≤ n - fewVs l n)
  | [], n, _, h => by simp only [fewVs, szVs]; omega
  | c :: l, n, hm, h => by
    simp only [mxVs] at hm
    by_cases h0 : 0 ≤ n
    · have h1 := fewV_b c n (by omega) h0
      have h2 := fewVs_b l (fewV c n) (by omega) (by omega)
      simp only [fewVs, if_pos h0, szVs]
      refine ⟨h2.1, by omega, fun h3 => ?_⟩
      have h4 := h2.2.2 h3
      have h5 := h1.2.2 (by omega)
      omega
    · simp only [fewVs, if_neg h0]
      exact ⟨h, Int.le_refl _, fun h3 => absurd h3 h0⟩
end
mutual
theorem fewT_b : ∀ (t : Ty) (n : Int), mxT t ≤ 2 ^ 48 → -(2 : Int) ^ 49 ≤ n → -(2 : Int) ^ 52 ≤ fewT t n ∧ fewT t n ≤ n ∧ (0 ≤ fewT t n → (szT t : Int) ≤ n - fewT t n)
  | .mk k nm c e f ns ms ps ad el ok, n, hm, h => by
    simp only [mxT] at hm
    have hl1 := mxB_len ns
    have hl2 := mxB_len ms
    have h1 := fewC_b c (n - 1 - ns.length - ms.length) (by omega)
    have h2 := fewPs_b ps (fewC c (n - 1 - ns.length - ms.length)) (by omega) (by omega)
    have h3 := fewPs_b ad (fewPs ps (fewC c (n - 1 - ns.length - ms.length))) (by omega) (by omega)
    have h4 := fewTs_b el (fewPs ad (fewPs ps (fewC c (n - 1 - ns.length - ms.length)))) (by omega) (by omega)
    simp only [fewT, szT]
    refine ⟨by omega, by omega, fun h0 => ?_⟩
    have := h4.2.2 h0
    have := h3.2.2 (by omega)
    have := h2.2.2 (by omega)
    omega
theorem fewP_b : ∀ (p : Prt) (n : Int), mxP p ≤ 2 ^ 48 → 0 ≤ n → -(2 : Int) ^ 52 ≤ fewP p n ∧ fewP p n ≤ n ∧ (0 ≤ fewP p n → (szP p : Int) ≤ n - fewP p n)
  | .mk nm t o d, n, hm, h => by
    simp only [mxP] at hm
    have h1 := fewVs_b d (n - 1) (by omega) (by omega)
    have h2 := fewT_b t (fewVs d (n - 1)) (by omega) (by omega)
    simp only [fewP, szP]
    refine ⟨by omega, by omega, fun h0 => ?_⟩
    have := h2.2.2 h0
    omega
theorem fewPs_b : ∀ (l : List Prt) (n : Int), mxPs l ≤ 2 ^ 48 → -(2 : Int) ^ 52 ≤ n → -(2 : Int) ^ 52 ≤ fewPs l n ∧ fewPs l n ≤ n ∧ (0 ≤ fewPs l n → (szPs l : Int) ≤ n - fewPs l n)
  | [], n, _, h => by simp only [fewPs, szPs]; omega
  | c :: l, n, hm, h => by
    simp only [mxPs] at hm
    by_cases h0 : 0 ≤ n
    · have h1 := fewP_b c n (by omega) h0
      have h2 := fewPs_b l (fewP c n) (by omega) (by omega)
      simp only [fewPs, if_pos h0, szPs]
      refine ⟨h2.1, by omega, fun h3 => ?_⟩
      have h4 := h2.2.2 h3
      have h5 := h1.2.2 (by omega)
      omega
    · simp only [fewPs, if_neg h0]
      exact ⟨h, Int.le_refl _, fun h3 => absurd h3 h0⟩
theorem fewTs_b : ∀ (l : List Ty) (n : Int), mxTs l ≤ 2 ^ 48 → -(2 : Int) ^ 52 ≤ n → -(2 : Int) ^ 52 ≤ fewTs l n ∧ fewTs l n ≤ n ∧ (0 ≤ fewTs l n → (szTs l : Int) ≤ n - fewTs l n)
  | [], n, _, h => by simp only [fewTs, szTs]; omega
  | c :: l, n, hm, h => by
    simp only [mxTs] at hm
    by_cases h0 : 0 ≤ n
    · have h1 := fewT_b c n (by omega) (by omega)
      have h2 := fewTs_b l (fewT c n) (by omega) (by omega)
      simp only [fewTs, if_pos h0, szTs]
      refine ⟨h2.1, by omega, fun h3 => ?_⟩
      have h4 := h2.2.2 h3
      have h5 := h1.2.2 (by omega)
      omega
    · simp only [fewTs, if_neg h0]
      exact ⟨h, Int.le_refl _, fun h3 => absurd h3 h0⟩
end
end Go.Abs.Fr
