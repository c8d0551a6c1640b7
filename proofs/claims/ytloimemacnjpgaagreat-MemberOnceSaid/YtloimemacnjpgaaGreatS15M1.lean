/- Values of tables' types: the plain parts. -/
import Derived.Test.YtloimemacnjpgaaGreatS15Cc
import Derived.Test.YtloimemacnjpgaaGreatAbsIb
set_option linter.all false
namespace Go.Abs.Fr
open Go Go.Abs Go.Proofs
set_option linter.unusedSimpArgs false
set_option maxRecDepth 100000

/-- spandrel/member.Same -/
def ac14 : ACode := (.seq (.region [⟨(some 2), (.box (.tmp 0)), none⟩, ⟨(some 3), (.box (.tmp 1)), none⟩, ⟨(some 4), (.move (.const (.bool false))), none⟩]) (.seq (.region [⟨(some 5), (.fieldAddr 0 (.tmp 2)), none⟩, ⟨(some 6), (.load none (.tmp 5)), none⟩, ⟨(some 7), (.fieldAddr 0 (.tmp 3)), none⟩, ⟨(some 8), (.load none (.tmp 7)), none⟩, ⟨(some 9), (.bin .eql (.tmp 6) (.tmp 8)), none⟩, ⟨(some 10), (.move (.tmp 9)), none⟩, ⟨(some 11), (.fieldAddr 1 (.tmp 2)), (some (10, true))⟩, ⟨(some 12), (.load none (.tmp 11)), (some (10, true))⟩, ⟨(some 13), (.fieldAddr 1 (.tmp 3)), (some (10, true))⟩, ⟨(some 14), (.load none (.tmp 13)), (some (10, true))⟩, ⟨(some 15), (.bin .eql (.tmp 12) (.tmp 14)), (some (10, true))⟩, ⟨(some 16), (.pick (.tmp 10) (.tmp 15) (.const (.bool false))), none⟩, ⟨(some 17), (.move (.tmp 16)), none⟩, ⟨(some 18), (.fieldAddr 2 (.tmp 2)), (some (17, true))⟩, ⟨(some 19), (.load none (.tmp 18)), (some (17, true))⟩, ⟨(some 20), (.fieldAddr 2 (.tmp 3)), (some (17, true))⟩, ⟨(some 21), (.load none (.tmp 20)), (some (17, true))⟩, ⟨(some 22), (.bin .eql (.tmp 19) (.tmp 21)), (some (17, true))⟩, ⟨(some 23), (.pick (.tmp 17) (.tmp 22) (.const (.bool false))), none⟩, ⟨(some 24), (.move (.tmp 23)), none⟩, ⟨(some 25), (.fieldAddr 3 (.tmp 2)), (some (24, true))⟩, ⟨(some 26), (.load none (.tmp 25)), (some (24, true))⟩, ⟨(some 27), (.fieldAddr 3 (.tmp 3)), (some (24, true))⟩, ⟨(some 28), (.load none (.tmp 27)), (some (24, true))⟩, ⟨(some 29), (.call (.func 23) [((.tmp 26), false), ((.tmp 28), false)]), (some (24, true))⟩, ⟨(some 30), (.pick (.tmp 24) (.tmp 29) (.const (.bool false))), none⟩, ⟨(some 31), (.move (.tmp 30)), none⟩, ⟨(some 32), (.fieldAddr 4 (.tmp 2)), (some (31, true))⟩, ⟨(some 33), (.load none (.tmp 32)), (some (31, true))⟩, ⟨(some 34), (.fieldAddr 4 (.tmp 3)), (some (31, true))⟩, ⟨(some 35), (.load none (.tmp 34)), (some (31, true))⟩, ⟨(some 36), (.call (.func 24) [((.tmp 33), false), ((.tmp 35), false), ((.func 14), false)]), (some (31, true))⟩, ⟨(some 37), (.pick (.tmp 31) (.tmp 36) (.const (.bool false))), none⟩, ⟨(some 4), (.move (.tmp 37)), none⟩]) .ret))
theorem c14 : cfn E0.P [] Tryz.f14 = some (ac14, [(.tmp 4)], 38) := by kernel_rfl
/-- spandrel/member.deep -/
def ac25 : ACode := (.seq (.region [⟨(some 2), (.box (.tmp 0)), none⟩, ⟨(some 3), (.box (.tmp 1)), none⟩, ⟨(some 4), (.move (.const (.bool false))), none⟩]) (.seq (.region [⟨(some 5), (.fieldAddr 0 (.tmp 2)), none⟩, ⟨(some 6), (.load none (.tmp 5)), none⟩, ⟨(some 7), (.call (.func 40) [((.tmp 6), false)]), none⟩, ⟨(some 8), (.move (.tmp 7)), none⟩, ⟨(some 9), (.load none (.tmp 3)), (some (8, true))⟩, ⟨(some 10), (.bin .eql (.tmp 9) (.const (.int .i64 0))), (some (8, true))⟩, ⟨(some 11), (.move (.tmp 10)), (some (8, true))⟩, ⟨(some 12), (.fieldAddr 4 (.tmp 2)), (some (11, false))⟩, ⟨(some 13), (.load none (.tmp 12)), (some (11, false))⟩, ⟨(some 14), (.mkFunc (.func 41) [] [(.tmp 3)]), (some (11, false))⟩, ⟨(some 15), (.call (.func 30) [((.tmp 13), false), ((.tmp 14), false)]), (some (11, false))⟩, ⟨(some 16), (.pick (.tmp 11) (.const (.bool true)) (.tmp 15)), (some (8, true))⟩, ⟨(some 17), (.pick (.tmp 8) (.tmp 16) (.const (.bool false))), none⟩, ⟨(some 4), (.move (.tmp 17)), none⟩]) .ret))
theorem c25 : cfn E0.P [] Tryz.f25 = some (ac25, [(.tmp 4)], 18) := by kernel_rfl
/-- (spandrel/member.row).fields -/
def ac29 : ACode := (.seq (.region [⟨(some 1), (.box (.tmp 0)), none⟩, ⟨(some 2), (.move (.const (.slice none 0 0))), none⟩]) (.seq (.draw [⟨(some 3), (.load (some 3) (.tmp 1)), none⟩, ⟨(some 4), (.call (.func 34) [((.tmp 3), false)]), none⟩, ⟨(some 5), (.field 8 none (.tmp 4)), none⟩, ⟨(some 6), (.load (some 3) (.tmp 1)), none⟩, ⟨(some 7), (.call (.func 34) [((.tmp 6), false)]), none⟩, ⟨(some 8), (.field 9 none (.tmp 7)), none⟩, ⟨(some 9), (.buildSlice false 1 [(.sl .full [])] 2 [(0, (.tmp 5)), (1, (.tmp 8))]), none⟩, ⟨(some 10), (.call (.func 46) [((.tmp 9), false)]), none⟩, ⟨(some 2), (.move (.tmp 10)), none⟩]) .ret))
theorem c29 : cfn E0.P [] Tryz.f29 = some (ac29, [(.tmp 2)], 11) := by kernel_rfl
/-- (spandrel/member.row).below -/
def ac33 : ACode := (.seq (.region [⟨(some 2), (.box (.tmp 0)), none⟩, ⟨(some 4), (.alloc [(.sl .full []), (.lit (.int .i64 0)), (.lit (.int .i64 0))]), none⟩]) (.seq (.region [⟨(some 5), (.fieldAddr 0 (.tmp 2)), none⟩, ⟨(some 6), (.load none (.tmp 5)), none⟩, ⟨(some 7), (.move (.tmp 1)), none⟩, ⟨(some 8), (.fieldAddr 2 (.tmp 2)), none⟩, ⟨(some 9), (.load none (.tmp 8)), none⟩, ⟨(some 10), (.bin .sub (.tmp 9) (.const (.int .i64 1))), none⟩, ⟨(some 11), (.build [(.sl .full []), (.lit (.int .i64 0)), (.lit (.int .i64 0))] [(0, (1, (.tmp 6))), (1, (1, (.tmp 7))), (2, (1, (.tmp 10)))]), none⟩, ⟨none, (.store 3 (.tmp 4) (.tmp 11)), none⟩]) .ret))
theorem c33 : cfn E0.P [] Tryz.f33 = some (ac33, [(.cell 4 (some 3))], 12) := by kernel_rfl
/-- (spandrel/member.row).own -/
def ac34 : ACode := (.seq (.region [⟨(some 1), (.box (.tmp 0)), none⟩, ⟨(some 2), (.alloc [(.lit (.int .i64 0)), (.lit (.bool false)), (.sl .full []), (.lit (.int .i64 0)), (.lit (.int .i64 0)), (.lit (.string (⟨#[]⟩ : ByteArray))), (.sl .full []), (.sl .full []), (.sl .full []), (.sl .full []), (.sl .full []), (.lit (.int .i64 0))]), none⟩]) (.seq (.region [⟨(some 3), (.fieldAddr 0 (.tmp 1)), none⟩, ⟨(some 4), (.load none (.tmp 3)), none⟩, ⟨(some 5), (.fieldAddr 1 (.tmp 1)), none⟩, ⟨(some 6), (.load none (.tmp 5)), none⟩, ⟨(some 7), (.indexAddr 12 (.tmp 4) (.tmp 6)), none⟩, ⟨(some 8), (.load (some 12) (.tmp 7)), none⟩, ⟨none, (.store 12 (.tmp 2) (.tmp 8)), none⟩]) .ret))
theorem c34 : cfn E0.P [] Tryz.f34 = some (ac34, [(.cell 2 (some 12))], 9) := by kernel_rfl
/-- spandrel/member.parted -/
def ac40 : ACode := (.seq (.region [⟨(some 2), (.move (.const (.bool false))), none⟩]) (.seq (.region [⟨(some 3), (.move (.tmp 0)), none⟩, ⟨(some 4), (.bin .eql (.tmp 3) (.const (.int .i64 8))), none⟩, ⟨(some 5), (.move (.tmp 4)), none⟩, ⟨(some 6), (.move (.tmp 0)), (some (5, false))⟩, ⟨(some 7), (.bin .eql (.tmp 6) (.const (.int .i64 9))), (some (5, false))⟩, ⟨(some 8), (.pick (.tmp 5) (.const (.bool true)) (.tmp 7)), none⟩, ⟨(some 9), (.move (.tmp 8)), none⟩, ⟨(some 10), (.move (.tmp 0)), (some (9, false))⟩, ⟨(some 11), (.bin .eql (.tmp 10) (.const (.int .i64 10))), (some (9, false))⟩, ⟨(some 12), (.pick (.tmp 9) (.const (.bool true)) (.tmp 11)), none⟩, ⟨(some 2), (.move (.tmp 12)), none⟩]) .ret))
theorem c40 : cfn E0.P [] Tryz.f40 = some (ac40, [(.tmp 2)], 13) := by kernel_rfl
/-- spandrel/member.deep$1 -/
def ac41 : ACode := (.seq (.region [⟨(some 2), (.box (.tmp 0)), none⟩, ⟨(some 3), (.move (.const (.bool false))), none⟩]) (.seq (.region [⟨(some 4), (.load (some 5) (.tmp 2)), none⟩, ⟨(some 5), (.load none (.tmp 1)), none⟩, ⟨(some 6), (.bin .sub (.tmp 5) (.const (.int .i64 1))), none⟩, ⟨(some 7), (.call (.func 25) [((.tmp 4), false), ((.tmp 6), false)]), none⟩, ⟨(some 3), (.move (.tmp 7)), none⟩]) .ret))
theorem c41 : cfn E0.P [] Tryz.f41 = some (ac41, [(.tmp 3)], 8) := by kernel_rfl

theorem parted_ev (k : Int) (h : List AObj) : EvR E0 40 [i64 k] h (boolv (parted k)) := by
  refine ev_of (fn := Tryz.f40) (hs := []) Tryz.func40 c40 (by simp) fun hcl => ?_
  simp only [ac40, aw20, List.take_succ_cons, List.take_zero, List.drop_zero, List.drop_succ_cons, List.length_map, ↓awD, awP, Nat.reduceLeDiff, Nat.reduceEqDiff, Nat.reduceAdd, Nat.zero_add, Int.cast_ofNat_Int, Int.reduceLT, Int.reduceLE, Int.reduceEq]
  repeat' (refine BrF.mk (fun hb => ?_) (fun hb => ?_) <;> (try rw [hb]) <;> simp only [aw21, aw21, aw20, List.take_succ_cons, List.take_zero, List.drop_zero, List.drop_succ_cons, List.length_map, ↓awD, awP, Nat.reduceLeDiff, Nat.reduceEqDiff, Nat.reduceAdd, Nat.zero_add, Int.cast_ofNat_Int, Int.reduceLT, Int.reduceLE, Int.reduceEq])
  all_goals (refine Fin.end hcl rfl (by first | rfl | exact (List.append_nil _).symm | (simp only [List.append_assoc]; rfl)) ⟨?_, rfl⟩; first | rfl | ((try simp only [dnat, decide_eq_true_eq, decide_eq_false_iff_not, List.length_eq_zero_iff, List.length_pos_iff] at *); first | (simp [*, parted]; done) | (simp [*, parted]; omega) | (clear hcl; simp [*, parted] <;> grind) | (simp [*, parted])))

theorem same_ev : ∀ (n : Nat) (a b : Val), szV a ≤ n → mxV a ≤ 2 ^ 48 → mxV b ≤ 2 ^ 48 → ∀ h, EvR E0 14 [valv a, valv b] h (boolv (eqV a b)) := by
  intro n
  induction n with
  | zero => intro a b hs; have := szV_eq a; omega
  | succ n ih =>
    intro a b hs ha hb h
    refine ev_of (fn := Tryz.f14) (hs := []) Tryz.func14 c14 (by simp) fun hcl => ?_
    have hA := mxV_le a
    have hB := mxV_le b
    have hsa := szV_eq a
    have l1 := mxB_len a.names
    have l2 := mxB_len b.names
    have l3 := mxVs_len a.l
    have l4 := mxVs_len b.l
    have h1 := fun h => strs_equal a.names b.names h (by omega) (by omega)
    have h2 := fun h => vals_equal a.l b.l eqV h (by omega) (by omega) 14 fun x y hx hy h' => ih x y (by have := szVs_mem hx; omega) (by have := mxVs_mem hx; omega) (by have := mxVs_mem hy; omega) h'
    simp only [ac14, valv_eq, aw20, List.take_succ_cons, List.take_zero, List.drop_zero, List.drop_succ_cons, List.length_map, ↓awD, awP, Nat.reduceLeDiff, Nat.reduceEqDiff, Nat.reduceAdd, Nat.zero_add, Int.cast_ofNat_Int, Int.reduceLT, Int.reduceLE, Int.reduceEq]
    repeat' (first | ((first | refine EvF.ret (h1 _) ?_ | refine EvRF.ret (h1 _) ?_); simp only [aw21, aw21, aw20, List.take_succ_cons, List.take_zero, List.drop_zero, List.drop_succ_cons, List.length_map, ↓awD, awP, Nat.reduceLeDiff, Nat.reduceEqDiff, Nat.reduceAdd, Nat.zero_add, Int.cast_ofNat_Int, Int.reduceLT, Int.reduceLE, Int.reduceEq]) | ((first | refine EvF.ret (h2 _) ?_ | refine EvRF.ret (h2 _) ?_); simp only [aw21, aw21, aw20, List.take_succ_cons, List.take_zero, List.drop_zero, List.drop_succ_cons, List.length_map, ↓awD, awP, Nat.reduceLeDiff, Nat.reduceEqDiff, Nat.reduceAdd, Nat.zero_add, Int.cast_ofNat_Int, Int.reduceLT, Int.reduceLE, Int.reduceEq]) | (refine BrF.mk (fun hb => ?_) (fun hb => ?_) <;> (try rw [hb]) <;> simp only [aw21, aw21, aw20, List.take_succ_cons, List.take_zero, List.drop_zero, List.drop_succ_cons, List.length_map, ↓awD, awP, Nat.reduceLeDiff, Nat.reduceEqDiff, Nat.reduceAdd, Nat.zero_add, Int.cast_ofNat_Int, Int.reduceLT, Int.reduceLE, Int.reduceEq]))
    all_goals (refine Fin.end hcl rfl (by first | rfl | exact (List.append_nil _).symm | (simp only [List.append_assoc]; rfl)) ⟨?_, rfl⟩; rw [eqV_eq]; (try simp only [dnat, decide_eq_true_eq, decide_eq_false_iff_not] at *); (first | (simp [*]; done) | (simp [*]; grind)))

theorem member_same_ev (a b : Val) (ha : mxV a ≤ 2 ^ 48) (hb : mxV b ≤ 2 ^ 48) (h : List AObj) : EvR E0 14 [valv a, valv b] h (boolv (eqV a b)) := same_ev _ a b (Nat.le_refl _) ha hb h

theorem deep_ev : ∀ (r : Nat), r ≤ 40 → ∀ (v : Val) (h : List AObj), mxV v ≤ 2 ^ 48 → EvR E0 25 [valv v, i64 r] h (boolv (deepV r v)) := by
  intro r
  induction r with
  | zero =>
    intro _ v h _
    refine ev_of (fn := Tryz.f25) (hs := []) Tryz.func25 c25 (by simp) fun hcl => ?_
    have hp := fun h => parted_ev v.kind h
    simp only [ac25, valv_eq, Int.cast_ofNat_Int, aw20, List.take_succ_cons, List.take_zero, List.drop_zero, List.drop_succ_cons, List.length_map, ↓awD, awP, Nat.reduceLeDiff, Nat.reduceEqDiff, Nat.reduceAdd, Nat.zero_add, Int.cast_ofNat_Int, Int.reduceLT, Int.reduceLE, Int.reduceEq]
    repeat' (first | ((first | refine EvF.ret (hp _) ?_ | refine EvRF.ret (hp _) ?_); simp only [aw21, aw21, aw20, List.take_succ_cons, List.take_zero, List.drop_zero, List.drop_succ_cons, List.length_map, ↓awD, awP, Nat.reduceLeDiff, Nat.reduceEqDiff, Nat.reduceAdd, Nat.zero_add, Int.cast_ofNat_Int, Int.reduceLT, Int.reduceLE, Int.reduceEq]) | (refine BrF.mk (fun hb => ?_) (fun hb => ?_) <;> (try rw [hb]) <;> simp only [aw21, aw21, aw20, List.take_succ_cons, List.take_zero, List.drop_zero, List.drop_succ_cons, List.length_map, ↓awD, awP, Nat.reduceLeDiff, Nat.reduceEqDiff, Nat.reduceAdd, Nat.zero_add, Int.cast_ofNat_Int, Int.reduceLT, Int.reduceLE, Int.reduceEq]))
    all_goals (refine Fin.end hcl rfl (by first | rfl | exact (List.append_nil _).symm | (simp only [List.append_assoc]; rfl)) ⟨?_, rfl⟩; first | rfl | ((try simp only [dnat, decide_eq_true_eq, decide_eq_false_iff_not, List.length_eq_zero_iff, List.length_pos_iff] at *); first | (simp [*, deepV]; done) | (simp [*, deepV]; omega) | (clear hcl; simp [*, deepV] <;> grind) | (simp [*, deepV])))
  | succ r ih =>
    intro hr v h hv
    have ih := ih (by omega)
    refine ev_of (fn := Tryz.f25) (hs := []) Tryz.func25 c25 (by simp) fun hcl => ?_
    have hV := mxV_le v
    have l3 := mxVs_len v.l
    have hp := fun h => parted_ev v.kind h
    have d0 : decide (((r + 1 : Nat) : Int) = 0) = false := by rw [decide_eq_false_iff_not]; omega
    have hc := fun (h' : List AObj) (id : Nat) (hid : h'[id]? = some (AObj.cells [i64 ((r + 1 : Nat) : Int)])) => val_any v.l 41 [.ref id 0] (deepV r) h' (by omega) fun x hx => by
      show EvR E0 41 [valv x, .ref id 0] h' (boolv (deepV r x))
      refine ev_of (fn := Tryz.f41) (hs := []) Tryz.func41 c41 (by simp) fun hcl => ?_
      have hx2 := fun h => ih x h (by have := mxVs_mem hx; omega)
      have w1 : IntKind.i64.wrap (((r + 1 : Nat) : Int) - 1) = (r : Int) := by rw [wrap_i64] <;> omega
      simp only [valv_eq] at hx2
      have hid2 := fun (l : List AObj) => app_get hid l
      simp only [ac41, valv_eq, hid2, aw20, List.take_succ_cons, List.take_zero, List.drop_zero, List.drop_succ_cons, List.length_map, ↓awD, awP, Nat.reduceLeDiff, Nat.reduceEqDiff, Nat.reduceAdd, Nat.zero_add, Int.cast_ofNat_Int, Int.reduceLT, Int.reduceLE, Int.reduceEq]
      simp only [w1, hid2, aw20, List.take_succ_cons, List.take_zero, List.drop_zero, List.drop_succ_cons, List.length_map, ↓awD, awP, Nat.reduceLeDiff, Nat.reduceEqDiff, Nat.reduceAdd, Nat.zero_add, Int.cast_ofNat_Int, Int.reduceLT, Int.reduceLE, Int.reduceEq]
      repeat' ((first | refine EvF.ret (hx2 _) ?_ | refine EvRF.ret (hx2 _) ?_); simp only [aw21, aw21, aw20, List.take_succ_cons, List.take_zero, List.drop_zero, List.drop_succ_cons, List.length_map, ↓awD, awP, Nat.reduceLeDiff, Nat.reduceEqDiff, Nat.reduceAdd, Nat.zero_add, Int.cast_ofNat_Int, Int.reduceLT, Int.reduceLE, Int.reduceEq])
      all_goals (refine Fin.end hcl rfl (by first | rfl | exact (List.append_nil _).symm | (simp only [List.append_assoc]; rfl)) ⟨?_, rfl⟩; first | rfl | ((try simp only [dnat, decide_eq_true_eq, decide_eq_false_iff_not, List.length_eq_zero_iff, List.length_pos_iff] at *); first | (simp [*, deepV]; done) | (simp [*, deepV]; omega) | (clear hcl; simp [*, deepV] <;> grind) | (simp [*, deepV])))
    simp only [ac25, valv_eq, d0, aw20, List.take_succ_cons, List.take_zero, List.drop_zero, List.drop_succ_cons, List.length_map, ↓awD, awP, Nat.reduceLeDiff, Nat.reduceEqDiff, Nat.reduceAdd, Nat.zero_add, Int.cast_ofNat_Int, Int.reduceLT, Int.reduceLE, Int.reduceEq]
    repeat' (first | ((first | refine EvF.ret (hp _) ?_ | refine EvRF.ret (hp _) ?_); simp only [d0, aw21, aw20, List.take_succ_cons, List.take_zero, List.drop_zero, List.drop_succ_cons, List.length_map, ↓awD, awP, Nat.reduceLeDiff, Nat.reduceEqDiff, Nat.reduceAdd, Nat.zero_add, Int.cast_ofNat_Int, Int.reduceLT, Int.reduceLE, Int.reduceEq]) | ((first | refine EvF.ret (hc _ _ (by simp)) ?_ | refine EvRF.ret (hc _ _ (by simp)) ?_); simp only [d0, aw21, aw20, List.take_succ_cons, List.take_zero, List.drop_zero, List.drop_succ_cons, List.length_map, ↓awD, awP, Nat.reduceLeDiff, Nat.reduceEqDiff, Nat.reduceAdd, Nat.zero_add, Int.cast_ofNat_Int, Int.reduceLT, Int.reduceLE, Int.reduceEq]) | (refine BrF.mk (fun hb => ?_) (fun hb => ?_) <;> (try rw [hb]) <;> simp only [d0, aw21, aw20, List.take_succ_cons, List.take_zero, List.drop_zero, List.drop_succ_cons, List.length_map, ↓awD, awP, Nat.reduceLeDiff, Nat.reduceEqDiff, Nat.reduceAdd, Nat.zero_add, Int.cast_ofNat_Int, Int.reduceLT, Int.reduceLE, Int.reduceEq]))
    all_goals (refine Fin.end hcl rfl (by first | rfl | exact (List.append_nil _).symm | (simp only [List.append_assoc]; rfl)) ⟨?_, rfl⟩; first | rfl | ((try simp only [dnat, decide_eq_true_eq, decide_eq_false_iff_not, List.length_eq_zero_iff, List.length_pos_iff] at *); first | (simp [*, deepV]; done) | (simp [*, deepV]; omega) | (clear hcl; simp [*, deepV] <;> grind) | (simp [*, deepV])))

abbrev rowv (d : List Dsc) (n : Int) (room : Int) : AV := .agg [dscl d, i64 n, i64 room]
theorem own_ev (d : List Dsc) (n : Nat) (r : Dsc) (room : Int) (hr : d[n]? = some r) (h : List AObj) : EvR E0 34 [rowv d n room] h (dscv r) := by
  refine ev_of (fn := Tryz.f34) (hs := []) Tryz.func34 c34 (by simp) fun hcl => ?_
  have hn := lt_len hr
  have hga := map_get dscv d n r hr
  simp only [ac34, aw20, List.take_succ_cons, List.take_zero, List.drop_zero, List.drop_succ_cons, List.length_map, ↓awD, awP, Nat.reduceLeDiff, Nat.reduceEqDiff, Nat.reduceAdd, Nat.zero_add, Int.cast_ofNat_Int, Int.reduceLT, Int.reduceLE, Int.reduceEq]
  ((first | refine Need.mk (by first | (first | omega | (simp only [decide_eq_true_eq, decide_eq_false_iff_not, Bool.and_eq_true, Bool.not_eq_true', Bool.not_eq_false', List.length_map] at *; omega) | (simp; omega)) | (constructor <;> (first | omega | (simp only [decide_eq_true_eq, decide_eq_false_iff_not, Bool.and_eq_true, Bool.not_eq_true', Bool.not_eq_false', List.length_map] at *; omega) | (simp; omega)))) (Elem.recs hga (by first | (rw [dscv_eq]; exact ⟨rfl, rfl⟩) | exact ⟨rfl, rfl⟩) ?_) | refine Elem.recs hga (by first | (rw [dscv_eq]; exact ⟨rfl, rfl⟩) | exact ⟨rfl, rfl⟩) ?_); simp only [dscv_eq, aw21, aw21, aw20, List.take_succ_cons, List.take_zero, List.drop_zero, List.drop_succ_cons, List.length_map, ↓awD, awP, Nat.reduceLeDiff, Nat.reduceEqDiff, Nat.reduceAdd, Nat.zero_add, Int.cast_ofNat_Int, Int.reduceLT, Int.reduceLE, Int.reduceEq])
  all_goals (refine Fin.end hcl (by first | rfl | (simp only [AV.under, unders, und_val, und_vals, und_strs, und_ints, und_rgs, und_flds, und_dsc, und_dscs, Bool.and_self, Bool.and_true, Bool.true_and])) (by first | rfl | exact (List.append_nil _).symm | (simp only [List.append_assoc]; rfl)) ⟨?_, rfl⟩; first | rfl | ((try simp only [dnat, decide_eq_true_eq, decide_eq_false_iff_not, List.length_eq_zero_iff, List.length_pos_iff] at *); first | (simp [*, dscv]; done) | (simp [*, dscv]; omega) | (clear hcl; simp [*, dscv] <;> grind) | (simp [*, dscv])))
theorem below_ev (d : List Dsc) (n : Int) (room m : Int) (hr : InR (room - 1)) (h : List AObj) : EvR E0 33 [rowv d n room, i64 m] h (rowv d m (room - 1)) := by
  refine ev_of (fn := Tryz.f33) (hs := []) Tryz.func33 c33 (by simp) fun hcl => ?_
  have w1 : IntKind.i64.wrap (room - 1) = room - 1 := wrap_i64 _ hr.1 hr.2
  simp only [ac33, w1, aw20, List.take_succ_cons, List.take_zero, List.drop_zero, List.drop_succ_cons, List.length_map, ↓awD, awP, Nat.reduceLeDiff, Nat.reduceEqDiff, Nat.reduceAdd, Nat.zero_add, Int.cast_ofNat_Int, Int.reduceLT, Int.reduceLE, Int.reduceEq]
  all_goals (refine Fin.end hcl (by first | rfl | (simp only [AV.under, unders, und_val, und_vals, und_strs, und_ints, und_rgs, und_flds, und_dsc, und_dscs, Bool.and_self, Bool.and_true, Bool.true_and])) (by first | rfl | exact (List.append_nil _).symm | (simp only [List.append_assoc]; rfl)) ⟨?_, rfl⟩; first | rfl | ((try simp only [dnat, decide_eq_true_eq, decide_eq_false_iff_not, List.length_eq_zero_iff, List.length_pos_iff] at *); first | (simp [*, rowv]; done) | (simp [*, rowv]; omega) | (clear hcl; simp [*, rowv] <;> grind) | (simp [*, rowv])))
theorem fields_ev (d : List Dsc) (n : Nat) (r : Dsc) (room : Int) (hr : d[n]? = some r) (hm : r.parts.length + r.adds.length ≤ 2 ^ 40) (h : List AObj) : EvR E0 29 [rowv d n room] h (fldl r.fields) := by
  refine ev_of (fn := Tryz.f29) (hs := []) Tryz.func29 c29 (by simp) fun hcl => ?_
  have h1 := fun h => own_ev d n r room hr h
  have h2 : ∀ h, EvR E0 46 [.sl .full [fldl r.parts, fldl r.adds]] h (fldl r.fields) := fun h => by
    have := flds_cat [r.parts, r.adds] h (by simp) (by simpa using hm)
    rw [show [r.parts, r.adds].flatten = r.fields by simp [Dsc.fields]] at this
    exact this
  simp only [dscv_eq] at h1
  simp only [ac29, aw20, List.take_succ_cons, List.take_zero, List.drop_zero, List.drop_succ_cons, List.length_map, ↓awD, awP, Nat.reduceLeDiff, Nat.reduceEqDiff, Nat.reduceAdd, Nat.zero_add, Int.cast_ofNat_Int, Int.reduceLT, Int.reduceLE, Int.reduceEq]
  repeat' (first | ((first | refine EvF.ret (h1 _) ?_ | refine EvRF.ret (h1 _) ?_); simp only [aw21, aw21, aw20, List.take_succ_cons, List.take_zero, List.drop_zero, List.drop_succ_cons, List.length_map, ↓awD, awP, Nat.reduceLeDiff, Nat.reduceEqDiff, Nat.reduceAdd, Nat.zero_add, Int.cast_ofNat_Int, Int.reduceLT, Int.reduceLE, Int.reduceEq]) | ((first | refine EvF.ret (h2 _) ?_ | refine EvRF.ret (h2 _) ?_); simp only [aw21, aw21, aw20, List.take_succ_cons, List.take_zero, List.drop_zero, List.drop_succ_cons, List.length_map, ↓awD, awP, Nat.reduceLeDiff, Nat.reduceEqDiff, Nat.reduceAdd, Nat.zero_add, Int.cast_ofNat_Int, Int.reduceLT, Int.reduceLE, Int.reduceEq]) | (refine Need.mk (by simp only [litParts, List.mem_cons, List.not_mem_nil, or_false, forall_eq_or_imp, forall_eq]; refine ⟨by decide, by decide, by decide, ?_⟩; repeat' (first | exact ⟨rfl, rfl, rfl⟩ | rfl | constructor)) ?_; simp only [aw21, aw20, List.take_succ_cons, List.take_zero, List.drop_zero, List.drop_succ_cons, List.length_map, ↓awD, awP, Nat.reduceLeDiff, Nat.reduceEqDiff, Nat.reduceAdd, Nat.zero_add, Int.cast_ofNat_Int, Int.reduceLT, Int.reduceLE, Int.reduceEq]))
  all_goals (refine Fin.end hcl (by first | rfl | (simp only [AV.under, unders, und_val, und_vals, und_strs, und_ints, und_rgs, und_flds, und_dsc, und_dscs, Bool.and_self, Bool.and_true, Bool.true_and])) (by first | rfl | exact (List.append_nil _).symm | (simp only [List.append_assoc]; rfl)) ⟨?_, rfl⟩; first | rfl | ((try simp only [dnat, decide_eq_true_eq, decide_eq_false_iff_not, List.length_eq_zero_iff, List.length_pos_iff] at *); first | (simp [*, dscv]; done) | (simp [*, dscv]; omega) | (clear hcl; simp [*, dscv] <;> grind) | (simp [*, dscv])))
end Go.Abs.Fr

namespace Go.Abs.Fr
open Go Go.Abs Go.Proofs
set_option linter.unusedSimpArgs false
set_option maxRecDepth 100000

/-- spandrel/member.bare -/
def ac55 : ACode := (.seq (.region [⟨(some 1), (.box (.tmp 0)), none⟩, ⟨(some 2), (.move (.const (.bool false))), none⟩]) (.seq (.region [⟨(some 6), (.fieldAddr 0 (.tmp 1)), none⟩, ⟨(some 7), (.load none (.tmp 6)), none⟩, ⟨(some 8), (.bin .eql (.tmp 7) (.const (.int .i64 1))), none⟩, ⟨(some 9), (.move (.tmp 8)), none⟩, ⟨(some 10), (.fieldAddr 0 (.tmp 1)), (some (9, false))⟩, ⟨(some 11), (.load none (.tmp 10)), (some (9, false))⟩, ⟨(some 12), (.bin .eql (.tmp 11) (.const (.int .i64 2))), (some (9, false))⟩, ⟨(some 13), (.pick (.tmp 9) (.const (.bool true)) (.tmp 12)), none⟩, ⟨(some 3), (.move (.tmp 13)), none⟩]) (.seq (.region [⟨(some 14), (.fieldAddr 0 (.tmp 1)), none⟩, ⟨(some 15), (.load none (.tmp 14)), none⟩, ⟨(some 16), (.bin .eql (.tmp 15) (.const (.int .i64 8))), none⟩, ⟨(some 17), (.move (.tmp 16)), none⟩, ⟨(some 18), (.fieldAddr 0 (.tmp 1)), (some (17, false))⟩, ⟨(some 19), (.load none (.tmp 18)), (some (17, false))⟩, ⟨(some 20), (.bin .eql (.tmp 19) (.const (.int .i64 9))), (some (17, false))⟩, ⟨(some 21), (.pick (.tmp 17) (.const (.bool true)) (.tmp 20)), none⟩, ⟨(some 22), (.move (.tmp 21)), none⟩, ⟨(some 23), (.fieldAddr 0 (.tmp 1)), (some (22, false))⟩, ⟨(some 24), (.load none (.tmp 23)), (some (22, false))⟩, ⟨(some 25), (.bin .eql (.tmp 24) (.const (.int .i64 10))), (some (22, false))⟩, ⟨(some 26), (.pick (.tmp 22) (.const (.bool true)) (.tmp 25)), none⟩, ⟨(some 4), (.move (.tmp 26)), none⟩]) (.seq (.region [⟨(some 27), (.move (.tmp 3)), none⟩, ⟨(some 28), (.un .not (.tmp 27)), none⟩, ⟨(some 29), (.move (.tmp 28)), none⟩, ⟨(some 30), (.fieldAddr 0 (.tmp 1)), (some (29, true))⟩, ⟨(some 31), (.load none (.tmp 30)), (some (29, true))⟩, ⟨(some 32), (.bin .neq (.tmp 31) (.const (.int .i64 4))), (some (29, true))⟩, ⟨(some 33), (.pick (.tmp 29) (.tmp 32) (.const (.bool false))), none⟩, ⟨(some 34), (.move (.tmp 33)), none⟩, ⟨(some 35), (.fieldAddr 0 (.tmp 1)), (some (34, true))⟩, ⟨(some 36), (.load none (.tmp 35)), (some (34, true))⟩, ⟨(some 37), (.bin .neq (.tmp 36) (.const (.int .i64 8))), (some (34, true))⟩, ⟨(some 38), (.pick (.tmp 34) (.tmp 37) (.const (.bool false))), none⟩, ⟨(some 39), (.move (.tmp 38)), none⟩, ⟨(some 40), (.fieldAddr 0 (.tmp 1)), (some (39, true))⟩, ⟨(some 41), (.load none (.tmp 40)), (some (39, true))⟩, ⟨(some 42), (.bin .neq (.tmp 41) (.const (.int .i64 9))), (some (39, true))⟩, ⟨(some 43), (.pick (.tmp 39) (.tmp 42) (.const (.bool false))), none⟩, ⟨(some 5), (.move (.tmp 43)), none⟩]) (.seq (.region [⟨(some 44), (.move (.tmp 3)), none⟩, ⟨(some 45), (.move (.tmp 44)), none⟩, ⟨(some 46), (.fieldAddr 1 (.tmp 1)), (some (45, false))⟩, ⟨(some 47), (.load none (.tmp 46)), (some (45, false))⟩, ⟨(some 48), (.bin .eql (.tmp 47) (.const (.int .i64 0))), (some (45, false))⟩, ⟨(some 49), (.pick (.tmp 45) (.const (.bool true)) (.tmp 48)), none⟩, ⟨(some 50), (.move (.tmp 49)), none⟩, ⟨(some 51), (.move (.tmp 4)), (some (50, true))⟩, ⟨(some 52), (.move (.tmp 51)), (some (50, true))⟩, ⟨(some 53), (.fieldAddr 4 (.tmp 1)), (some (52, false))⟩, ⟨(some 54), (.load none (.tmp 53)), (some (52, false))⟩, ⟨(some 55), (.len false (.tmp 54)), (some (52, false))⟩, ⟨(some 56), (.bin .eql (.tmp 55) (.const (.int .i64 0))), (some (52, false))⟩, ⟨(some 57), (.pick (.tmp 52) (.const (.bool true)) (.tmp 56)), (some (50, true))⟩, ⟨(some 58), (.pick (.tmp 50) (.tmp 57) (.const (.bool false))), none⟩, ⟨(some 59), (.move (.tmp 58)), none⟩, ⟨(some 60), (.move (.tmp 5)), (some (59, true))⟩, ⟨(some 61), (.move (.tmp 60)), (some (59, true))⟩, ⟨(some 62), (.fieldAddr 2 (.tmp 1)), (some (61, false))⟩, ⟨(some 63), (.load none (.tmp 62)), (some (61, false))⟩, ⟨(some 64), (.bin .eql (.tmp 63) (.const (.string (⟨#[]⟩ : ByteArray)))), (some (61, false))⟩, ⟨(some 65), (.pick (.tmp 61) (.const (.bool true)) (.tmp 64)), (some (59, true))⟩, ⟨(some 66), (.pick (.tmp 59) (.tmp 65) (.const (.bool false))), none⟩, ⟨(some 67), (.move (.tmp 66)), none⟩, ⟨(some 68), (.fieldAddr 0 (.tmp 1)), (some (67, true))⟩, ⟨(some 69), (.load none (.tmp 68)), (some (67, true))⟩, ⟨(some 70), (.bin .eql (.tmp 69) (.const (.int .i64 8))), (some (67, true))⟩, ⟨(some 71), (.move (.tmp 70)), (some (67, true))⟩, ⟨(some 72), (.fieldAddr 3 (.tmp 1)), (some (71, false))⟩, ⟨(some 73), (.load none (.tmp 72)), (some (71, false))⟩, ⟨(some 74), (.len false (.tmp 73)), (some (71, false))⟩, ⟨(some 75), (.bin .eql (.tmp 74) (.const (.int .i64 0))), (some (71, false))⟩, ⟨(some 76), (.pick (.tmp 71) (.const (.bool true)) (.tmp 75)), (some (67, true))⟩, ⟨(some 77), (.pick (.tmp 67) (.tmp 76) (.const (.bool false))), none⟩, ⟨(some 2), (.move (.tmp 77)), none⟩]) .ret)))))
theorem c55 : cfn E0.P [] Tryz.f55 = some (ac55, [(.tmp 2)], 78) := by kernel_rfl
/-- spandrel/spans.Has -/
def ac56 : ACode := (.seq (.region [⟨(some 3), (.box (.tmp 1)), none⟩, ⟨(some 4), (.move (.const (.bool false))), none⟩]) (.seq (.region [⟨(some 5), (.move (.tmp 0)), none⟩, ⟨(some 6), (.mkFunc (.func 71) [] [(.tmp 3)]), none⟩, ⟨(some 7), (.call (.func 70) [((.tmp 5), false), ((.tmp 6), false)]), none⟩, ⟨(some 4), (.move (.tmp 7)), none⟩]) .ret))
theorem c56 : cfn E0.P [] Tryz.f56 = some (ac56, [(.tmp 4)], 8) := by kernel_rfl
/-- spandrel/member.text -/
def ac58 : ACode := (.seq (.region [⟨(some 4), (.move (.const (.bool false))), none⟩]) (.seq (.seq (.region [⟨(some 6), (.move (.tmp 0)), none⟩, ⟨(some 7), (.len true (.tmp 6)), none⟩, ⟨(some 8), (.move (.const (.int .i64 0))), none⟩]) (.block 0 (.loop (.seq (.region [⟨(some 9), (.bin .lss (.tmp 8) (.tmp 7)), none⟩]) (.seq (.cond (.tmp 9) .skip (.exit 0)) (.seq (.block 1 (.seq (.region [⟨(some 10), (.move (.tmp 8)), none⟩, ⟨(some 5), (.move (.tmp 10)), none⟩]) (.seq (.region [⟨(some 11), (.move (.tmp 0)), none⟩, ⟨(some 12), (.move (.tmp 5)), none⟩, ⟨(some 13), (.indexS (.tmp 11) (.tmp 12)), none⟩, ⟨(some 14), (.bin .geq (.tmp 13) (.const (.int .u8 128))), none⟩, ⟨(some 15), (.move (.tmp 14)), none⟩, ⟨(some 16), (.move (.tmp 1)), (some (15, false))⟩, ⟨(some 17), (.bin .neq (.tmp 16) (.const (.string (⟨#[]⟩ : ByteArray)))), (some (15, false))⟩, ⟨(some 18), (.move (.tmp 17)), (some (15, false))⟩, ⟨(some 19), (.move (.tmp 1)), (some (18, true))⟩, ⟨(some 20), (.toBytes (.tmp 19)), (some (18, true))⟩, ⟨(some 21), (.move (.tmp 0)), (some (18, true))⟩, ⟨(some 22), (.move (.tmp 5)), (some (18, true))⟩, ⟨(some 23), (.indexS (.tmp 21) (.tmp 22)), (some (18, true))⟩, ⟨(some 24), (.call (.func 72) [((.tmp 20), false), ((.tmp 23), false)]), (some (18, true))⟩, ⟨(some 25), (.bin .lss (.tmp 24) (.const (.int .i64 0))), (some (18, true))⟩, ⟨(some 26), (.pick (.tmp 18) (.tmp 25) (.const (.bool false))), (some (15, false))⟩, ⟨(some 27), (.pick (.tmp 15) (.const (.bool true)) (.tmp 26)), none⟩]) (.cond (.tmp 27) (.seq (.region [⟨(some 4), (.move (.const (.bool false))), none⟩]) .ret) .skip)))) (.region [⟨(some 28), (.bin .add (.tmp 8) (.const (.int .i64 1))), none⟩, ⟨(some 8), (.move (.tmp 28)), none⟩]))))))) (.seq (.region [⟨(some 4), (.move (.const (.bool true))), none⟩]) .ret)))
theorem c58 : cfn E0.P [] Tryz.f58 = some (ac58, [(.tmp 4)], 29) := by kernel_rfl
/-- (spandrel/member.row).sized -/
def ac59 : ACode := (.seq (.region [⟨(some 2), (.box (.tmp 0)), none⟩, ⟨(some 4), (.move (.const (.bool false))), none⟩]) (.seq (.region [⟨(some 5), (.move (.tmp 1)), none⟩, ⟨(some 6), (.bin .leq (.tmp 5) (.const (.int .i64 1048576))), none⟩, ⟨(some 7), (.move (.tmp 6)), none⟩, ⟨(some 8), (.load (some 3) (.tmp 2)), (some (7, true))⟩, ⟨(some 9), (.call (.func 34) [((.tmp 8), false)]), (some (7, true))⟩, ⟨(some 10), (.field 1 none (.tmp 9)), (some (7, true))⟩, ⟨(some 11), (.move (.tmp 10)), (some (7, true))⟩, ⟨(some 12), (.load (some 3) (.tmp 2)), (some (11, false))⟩, ⟨(some 13), (.call (.func 34) [((.tmp 12), false)]), (some (11, false))⟩, ⟨(some 14), (.field 2 none (.tmp 13)), (some (11, false))⟩, ⟨(some 15), (.move (.tmp 1)), (some (11, false))⟩, ⟨(some 16), (.call (.func 56) [((.tmp 14), false), ((.tmp 15), false)]), (some (11, false))⟩, ⟨(some 17), (.pick (.tmp 11) (.const (.bool true)) (.tmp 16)), (some (7, true))⟩, ⟨(some 18), (.pick (.tmp 7) (.tmp 17) (.const (.bool false))), none⟩, ⟨(some 4), (.move (.tmp 18)), none⟩]) .ret))
theorem c59 : cfn E0.P [] Tryz.f59 = some (ac59, [(.tmp 4)], 19) := by kernel_rfl
/-- spandrel/spans.Has$1 -/
def ac71 : ACode := (.seq (.region [⟨(some 2), (.box (.tmp 0)), none⟩, ⟨(some 3), (.move (.const (.bool false))), none⟩]) (.seq (.region [⟨(some 4), (.fieldAddr 0 (.tmp 2)), none⟩, ⟨(some 5), (.load none (.tmp 4)), none⟩, ⟨(some 6), (.load none (.tmp 1)), none⟩, ⟨(some 7), (.bin .leq (.tmp 5) (.tmp 6)), none⟩, ⟨(some 8), (.move (.tmp 7)), none⟩, ⟨(some 9), (.load none (.tmp 1)), (some (8, true))⟩, ⟨(some 10), (.fieldAddr 1 (.tmp 2)), (some (8, true))⟩, ⟨(some 11), (.load none (.tmp 10)), (some (8, true))⟩, ⟨(some 12), (.bin .leq (.tmp 9) (.tmp 11)), (some (8, true))⟩, ⟨(some 13), (.pick (.tmp 8) (.tmp 12) (.const (.bool false))), none⟩, ⟨(some 3), (.move (.tmp 13)), none⟩]) .ret))
theorem c71 : cfn E0.P [] Tryz.f71 = some (ac71, [(.tmp 3)], 14) := by kernel_rfl
/-- bytes.IndexByte -/
def ac72 : ACode := (.seq (.region [⟨(some 4), (.move (.const (.int .i64 0))), none⟩]) (.seq (.region [⟨(some 5), (.move (.tmp 0)), none⟩, ⟨(some 6), (.move (.tmp 1)), none⟩, ⟨(some 7), (.call (.func 90) [((.tmp 5), false), ((.tmp 6), false)]), none⟩, ⟨(some 4), (.move (.tmp 7)), none⟩]) .ret))
theorem c72 : cfn E0.P [] Tryz.f72 = some (ac72, [(.tmp 4)], 8) := by kernel_rfl

def bareV (v : Val) : Bool :=
  (decide (v.kind = 1) || decide (v.kind = 2) || decide (v.n = 0)) && (parted v.kind || decide (v.l.length = 0)) &&
  ((!(decide (v.kind = 1) || decide (v.kind = 2)) && (!decide (v.kind = 4) && (!decide (v.kind = 8) && !decide (v.kind = 9)))) || decide (v.s = ⟨#[]⟩)) && (decide (v.kind = 8) || decide (v.names.length = 0))
def inSet (l : List Rg) (n : Int) : Bool := l.any fun x => decide (x.lo ≤ n) && decide (n ≤ x.hi)
def chOk (frm : ByteArray) (c : UInt8) : Bool := decide (c.toNat < 128) && (decide (frm = ⟨#[]⟩) || frm.data.toList.any fun x => decide (x = c))
def textOk (s frm : ByteArray) : Bool := s.data.toList.all (chOk frm)
def sizedOk (r : Dsc) (n : Nat) : Bool := decide (n ≤ 1048576) && (r.ext || inSet r.set n)

theorem has_ev (l : List Rg) (n : Int) (hl : l.length < 2 ^ 60) (h : List AObj) : EvR E0 56 [rgl l, i64 n] h (boolv (inSet l n)) := by
  refine ev_of (fn := Tryz.f56) (hs := []) Tryz.func56 c56 (by simp) fun hcl => ?_
  have hc := fun (h' : List AObj) (id : Nat) (hid : h'[id]? = some (AObj.cells [i64 n])) => rg_any l 71 [.ref id 0] (fun x => decide (x.lo ≤ n) && decide (n ≤ x.hi)) h' hl fun x hx => by
    show EvR E0 71 [rgv x, .ref id 0] h' _
    refine ev_of (fn := Tryz.f71) (hs := []) Tryz.func71 c71 (by simp) fun hcl => ?_
    have hid2 := fun (l : List AObj) => app_get hid l
    simp only [ac71, rgv_eq, hid2, aw20, List.take_succ_cons, List.take_zero, List.drop_zero, List.drop_succ_cons, List.length_map, ↓awD, awP, Nat.reduceLeDiff, Nat.reduceEqDiff, Nat.reduceAdd, Nat.zero_add, Int.cast_ofNat_Int, Int.reduceLT, Int.reduceLE, Int.reduceEq]
    repeat' (refine BrF.mk (fun hb => ?_) (fun hb => ?_) <;> (try rw [hb]) <;> simp only [hid2, aw21, aw20, List.take_succ_cons, List.take_zero, List.drop_zero, List.drop_succ_cons, List.length_map, ↓awD, awP, Nat.reduceLeDiff, Nat.reduceEqDiff, Nat.reduceAdd, Nat.zero_add, Int.cast_ofNat_Int, Int.reduceLT, Int.reduceLE, Int.reduceEq])
    all_goals (refine Fin.end hcl rfl (by first | rfl | exact (List.append_nil _).symm | (simp only [List.append_assoc]; rfl)) ⟨?_, rfl⟩; first | rfl | ((try simp only [dnat, decide_eq_true_eq, decide_eq_false_iff_not, List.length_eq_zero_iff, List.length_pos_iff] at *); first | (simp [*, inSet]; done) | (simp [*, inSet]; omega) | (clear hcl; simp [*, inSet] <;> grind) | (simp [*, inSet])))
  simp only [ac56, aw20, List.take_succ_cons, List.take_zero, List.drop_zero, List.drop_succ_cons, List.length_map, ↓awD, awP, Nat.reduceLeDiff, Nat.reduceEqDiff, Nat.reduceAdd, Nat.zero_add, Int.cast_ofNat_Int, Int.reduceLT, Int.reduceLE, Int.reduceEq]
  repeat' (first | ((first | refine EvF.ret (hc _ _ (by simp)) ?_ | refine EvRF.ret (hc _ _ (by simp)) ?_); simp only [aw21, aw21, aw20, List.take_succ_cons, List.take_zero, List.drop_zero, List.drop_succ_cons, List.length_map, ↓awD, awP, Nat.reduceLeDiff, Nat.reduceEqDiff, Nat.reduceAdd, Nat.zero_add, Int.cast_ofNat_Int, Int.reduceLT, Int.reduceLE, Int.reduceEq]))
  all_goals (refine Fin.end hcl rfl (by first | rfl | exact (List.append_nil _).symm | (simp only [List.append_assoc]; rfl)) ⟨?_, rfl⟩; first | rfl | ((try simp only [dnat, decide_eq_true_eq, decide_eq_false_iff_not, List.length_eq_zero_iff, List.length_pos_iff] at *); first | (simp [*, inSet]; done) | (simp [*, inSet]; omega) | (clear hcl; simp [*, inSet] <;> grind) | (simp [*, inSet])))

set_option maxHeartbeats 8000000 in
theorem bare_ev (v : Val) (h : List AObj) : EvR E0 55 [valv v] h (boolv (bareV v)) := by
  refine ev_of (fn := Tryz.f55) (hs := []) Tryz.func55 c55 (by simp) fun hcl => ?_
  have e1 : decide ((v.l.length : Int) = 0) = decide (v.l.length = 0) := by rw [decide_eq_decide]; omega
  have e2 : decide ((v.names.length : Int) = 0) = decide (v.names.length = 0) := by rw [decide_eq_decide]; omega
  unfold bareV parted
  have hk : v.kind = 1 ∨ v.kind = 2 ∨ v.kind = 4 ∨ v.kind = 8 ∨ v.kind = 9 ∨ v.kind = 10 ∨ (v.kind ≠ 1 ∧ v.kind ≠ 2 ∧ v.kind ≠ 4 ∧ v.kind ≠ 8 ∧ v.kind ≠ 9 ∧ v.kind ≠ 10) := by omega
  rcases hk with hk | hk | hk | hk | hk | hk | ⟨k1, k2, k4, k8, k9, k10⟩
  all_goals
    first
    | simp only [ac55, valv_eq, e1, e2, hk, Int.reduceEq, decide_true, decide_false, Bool.not_true, Bool.not_false, Bool.and_true, Bool.true_and, Bool.and_false, Bool.false_and, Bool.or_true, Bool.true_or, Bool.or_false, Bool.false_or, aw20, List.take_succ_cons, List.take_zero, List.drop_zero, List.drop_succ_cons, List.length_map, ↓awD, awP, Nat.reduceLeDiff, Nat.reduceEqDiff, Nat.reduceAdd, Nat.zero_add, Int.cast_ofNat_Int, Int.reduceLT, Int.reduceLE, Int.reduceEq]
    | simp only [ac55, valv_eq, e1, e2, k1, k2, k4, k8, k9, k10, Int.reduceEq, decide_true, decide_false, Bool.not_true, Bool.not_false, Bool.and_true, Bool.true_and, Bool.and_false, Bool.false_and, Bool.or_true, Bool.true_or, Bool.or_false, Bool.false_or, aw20, List.take_succ_cons, List.take_zero, List.drop_zero, List.drop_succ_cons, List.length_map, ↓awD, awP, Nat.reduceLeDiff, Nat.reduceEqDiff, Nat.reduceAdd, Nat.zero_add, Int.cast_ofNat_Int, Int.reduceLT, Int.reduceLE, Int.reduceEq]
  all_goals repeat' (refine BrF.mk (fun hb => ?_) (fun hb => ?_) <;> (try rw [hb]) <;> simp only [aw21, aw21, aw20, List.take_succ_cons, List.take_zero, List.drop_zero, List.drop_succ_cons, List.length_map, ↓awD, awP, Nat.reduceLeDiff, Nat.reduceEqDiff, Nat.reduceAdd, Nat.zero_add, Int.cast_ofNat_Int, Int.reduceLT, Int.reduceLE, Int.reduceEq])
  all_goals (refine Fin.end hcl rfl (by first | rfl | exact (List.append_nil _).symm | (simp only [List.append_assoc]; rfl)) ⟨?_, rfl⟩; clear hcl; simp only [e1, decide_eq_true_eq, decide_eq_false_iff_not, List.length_eq_zero_iff] at *; first | (simp [*]; done) | (simp_all; done) | grind)

theorem bytesIndex_ev (l : List UInt8) (c : UInt8) (h : List AObj) : EvR E0 72 [.sl .unk (byA l), u8v c] h (i64 (idx (fun x => decide (x = c)) l 0)) := by
  refine ev_of (fn := Tryz.f72) (hs := []) Tryz.func72 c72 (by simp) fun hcl => ?_
  have h1 := fun h => indexByte_ev (E := E0) (f := 90) Tryz.func90 (by kernel_rfl) (by kernel_rfl) (by kernel_rfl) (by kernel_rfl) l c h
  simp only [ac72, aw20, List.take_succ_cons, List.take_zero, List.drop_zero, List.drop_succ_cons, List.length_map, ↓awD, awP, Nat.reduceLeDiff, Nat.reduceEqDiff, Nat.reduceAdd, Nat.zero_add, Int.cast_ofNat_Int, Int.reduceLT, Int.reduceLE, Int.reduceEq]
  repeat' ((first | refine EvF.ret (h1 _) ?_ | refine EvRF.ret (h1 _) ?_); simp only [aw21, aw21, aw20, List.take_succ_cons, List.take_zero, List.drop_zero, List.drop_succ_cons, List.length_map, ↓awD, awP, Nat.reduceLeDiff, Nat.reduceEqDiff, Nat.reduceAdd, Nat.zero_add, Int.cast_ofNat_Int, Int.reduceLT, Int.reduceLE, Int.reduceEq])
  all_goals (refine Fin.end hcl rfl (by first | rfl | exact (List.append_nil _).symm | (simp only [List.append_assoc]; rfl)) ⟨?_, rfl⟩; first | rfl | ((try simp only [dnat, decide_eq_true_eq, decide_eq_false_iff_not, List.length_eq_zero_iff, List.length_pos_iff] at *); first | (simp [*, idx]; done) | (simp [*, idx]; omega) | (clear hcl; simp [*, idx] <;> grind) | (simp [*, idx])))

theorem text_ev (s frm : ByteArray) (hs : s.size < 2 ^ 60) (hf : frm.size < 2 ^ 60) (h : List AObj) : EvR E0 58 [str s, str frm] h (boolv (textOk s frm)) := by
  refine ev_of (fn := Tryz.f58) (hs := []) Tryz.func58 c58 (by simp) fun hcl => ?_
  have hsz : s.size = s.data.toList.length := by simp
  have hfz : frm.size = frm.data.toList.length := by simp
  unfold textOk
  generalize hR : s.data.toList.all (chOk frm) = R
  simp only [ac58, aw20, List.take_succ_cons, List.take_zero, List.drop_zero, List.drop_succ_cons, List.length_map, ↓awD, awP, Nat.reduceLeDiff, Nat.reduceEqDiff, Nat.reduceAdd, Nat.zero_add, Int.cast_ofNat_Int, Int.reduceLT, Int.reduceLE, Int.reduceEq]
  refine LoopF.list s.data.toList (by omega) (γ := Unit) (fun i _ => ⟨[(0, str s), (1, str frm), (7, i64 s.size), (8, i64 i)], h⟩) (fun i _ => (s.data.toList.drop i).all (chOk frm) = R) () (by simpa using hR) (weak_of rfl (by simp [look])) ?_ ?_
  · rintro i a _ ha hv hi e1 w3
    rw [drop_get ha, List.all_cons] at hv
    rw [← hsz] at hi e1
    have hib := fun h => bytesIndex_ev frm.data.toList a h
    have d1 : decide ((128 : Int) ≤ (a.toNat : Int)) = !decide (a.toNat < 128) := by rw [Bool.eq_iff_iff]; simp; omega
    have d2 : decide (idx (fun x => decide (x = a)) frm.data.toList 0 < 0) = !(frm.data.toList.any fun x => decide (x = a)) := by
      rw [← idx_any (fun x => decide (x = a)) frm.data.toList 0, Bool.eq_iff_iff]; simp
    simp only [e1, w3, aw20, List.take_succ_cons, List.take_zero, List.drop_zero, List.drop_succ_cons, List.length_map, ↓awD, awP, Nat.reduceLeDiff, Nat.reduceEqDiff, Nat.reduceAdd, Nat.zero_add, Int.cast_ofNat_Int, Int.reduceLT, Int.reduceLE, Int.reduceEq]
    repeat' (first | ((first | refine Need.mk (by first | (constructor <;> (first | omega | (simp only [decide_eq_true_eq, decide_eq_false_iff_not, Bool.and_eq_true, Bool.not_eq_true', Bool.not_eq_false', List.length_map] at *; omega) | (simp; omega))) | (first | omega | (simp only [decide_eq_true_eq, decide_eq_false_iff_not, Bool.and_eq_true, Bool.not_eq_true', Bool.not_eq_false', List.length_map] at *; omega) | (simp; omega))) (Byte.at ha ?_) | refine Byte.at ha ?_); simp only [d1, w3, szl, aw20, List.take_succ_cons, List.take_zero, List.drop_zero, List.drop_succ_cons, List.length_map, ↓awD, awP, Nat.reduceLeDiff, Nat.reduceEqDiff, Nat.reduceAdd, Nat.zero_add, Int.cast_ofNat_Int, Int.reduceLT, Int.reduceLE, Int.reduceEq]) | (refine Need.mk (by first | decide | (first | omega | (simp only [decide_eq_true_eq, decide_eq_false_iff_not, Bool.and_eq_true, Bool.not_eq_true', Bool.not_eq_false', List.length_map] at *; omega) | (simp; omega)) | (constructor <;> (first | omega | (simp only [decide_eq_true_eq, decide_eq_false_iff_not, Bool.and_eq_true, Bool.not_eq_true', Bool.not_eq_false', List.length_map] at *; omega) | (simp; omega)))) ?_; simp only [w3, szl, aw20, List.take_succ_cons, List.take_zero, List.drop_zero, List.drop_succ_cons, List.length_map, ↓awD, awP, Nat.reduceLeDiff, Nat.reduceEqDiff, Nat.reduceAdd, Nat.zero_add, Int.cast_ofNat_Int, Int.reduceLT, Int.reduceLE, Int.reduceEq]) | ((first | refine EvF.ret (hib _) ?_ | refine EvRF.ret (hib _) ?_); simp only [d1, d2, w3, aw21, aw20, List.take_succ_cons, List.take_zero, List.drop_zero, List.drop_succ_cons, List.length_map, ↓awD, awP, Nat.reduceLeDiff, Nat.reduceEqDiff, Nat.reduceAdd, Nat.zero_add, Int.cast_ofNat_Int, Int.reduceLT, Int.reduceLE, Int.reduceEq]) | (refine BrF.mk (fun hb => ?_) (fun hb => ?_) <;> (try rw [hb]) <;> simp only [d1, d2, w3, aw21, aw20, List.take_succ_cons, List.take_zero, List.drop_zero, List.drop_succ_cons, List.length_map, ↓awD, awP, Nat.reduceLeDiff, Nat.reduceEqDiff, Nat.reduceAdd, Nat.zero_add, Int.cast_ofNat_Int, Int.reduceLT, Int.reduceLE, Int.reduceEq]))
    all_goals (simp only [chOk, *, Bool.not_true, Bool.not_false, Bool.true_and, Bool.false_and, Bool.and_true, Bool.and_false, Bool.or_true, Bool.true_or, Bool.false_or, Bool.or_false] at hv)
    all_goals first | exact ⟨(i + 1, ()), ⟨hi, hv⟩, by simp only; omega, weak_of (rfl) (by simp [look])⟩ | (subst hv; exact Fin.end hcl rfl (by first | rfl | exact (List.append_nil _).symm | (simp only [List.append_assoc]; rfl)) ⟨rfl, rfl⟩) | (exact Fin.end hcl rfl (by first | rfl | exact (List.append_nil _).symm | (simp only [List.append_assoc]; rfl)) ⟨by simp_all, rfl⟩)
  · rintro _ hv e1
    rw [drop_len] at hv
    simp only [List.all_nil] at hv
    subst hv
    have e2 : decide ((s.data.toList.length : Int) < s.size) = false := by rw [hsz]; simp
    simp only [e2, aw20, List.take_succ_cons, List.take_zero, List.drop_zero, List.drop_succ_cons, List.length_map, ↓awD, awP, Nat.reduceLeDiff, Nat.reduceEqDiff, Nat.reduceAdd, Nat.zero_add, Int.cast_ofNat_Int, Int.reduceLT, Int.reduceLE, Int.reduceEq]
    exact Fin.end hcl rfl (by first | rfl | exact (List.append_nil _).symm | (simp only [List.append_assoc]; rfl)) ⟨rfl, rfl⟩

theorem sized_ev (d : List Dsc) (n : Nat) (r : Dsc) (room : Int) (hr : d[n]? = some r) (k : Nat) (hl : r.set.length < 2 ^ 60) (h : List AObj) : EvR E0 59 [rowv d n room, i64 k] h (boolv (sizedOk r k)) := by
  refine ev_of (fn := Tryz.f59) (hs := []) Tryz.func59 c59 (by simp) fun hcl => ?_
  have h1 := fun h => own_ev d n r room hr h
  have h2 := fun h => has_ev r.set k hl h
  have d1 : decide ((k : Int) ≤ 1048576) = decide (k ≤ 1048576) := by rw [decide_eq_decide]; omega
  simp only [dscv_eq] at h1
  simp only [ac59, d1, aw20, List.take_succ_cons, List.take_zero, List.drop_zero, List.drop_succ_cons, List.length_map, ↓awD, awP, Nat.reduceLeDiff, Nat.reduceEqDiff, Nat.reduceAdd, Nat.zero_add, Int.cast_ofNat_Int, Int.reduceLT, Int.reduceLE, Int.reduceEq]
  repeat' (first | ((first | refine EvF.ret (h1 _) ?_ | refine EvRF.ret (h1 _) ?_); simp only [d1, aw21, aw20, List.take_succ_cons, List.take_zero, List.drop_zero, List.drop_succ_cons, List.length_map, ↓awD, awP, Nat.reduceLeDiff, Nat.reduceEqDiff, Nat.reduceAdd, Nat.zero_add, Int.cast_ofNat_Int, Int.reduceLT, Int.reduceLE, Int.reduceEq]) | ((first | refine EvF.ret (h2 _) ?_ | refine EvRF.ret (h2 _) ?_); simp only [d1, aw21, aw20, List.take_succ_cons, List.take_zero, List.drop_zero, List.drop_succ_cons, List.length_map, ↓awD, awP, Nat.reduceLeDiff, Nat.reduceEqDiff, Nat.reduceAdd, Nat.zero_add, Int.cast_ofNat_Int, Int.reduceLT, Int.reduceLE, Int.reduceEq]) | (refine BrF.mk (fun hb => ?_) (fun hb => ?_) <;> (try rw [hb]) <;> simp only [d1, aw21, aw20, List.take_succ_cons, List.take_zero, List.drop_zero, List.drop_succ_cons, List.length_map, ↓awD, awP, Nat.reduceLeDiff, Nat.reduceEqDiff, Nat.reduceAdd, Nat.zero_add, Int.cast_ofNat_Int, Int.reduceLT, Int.reduceLE, Int.reduceEq]))
  all_goals (refine Fin.end hcl rfl (by first | rfl | exact (List.append_nil _).symm | (simp only [List.append_assoc]; rfl)) ⟨?_, rfl⟩; simp [*, sizedOk])
end Go.Abs.Fr


namespace Go.Abs.Fr
open Go Go.Abs Go.Proofs
set_option linter.unusedSimpArgs false
set_option maxRecDepth 100000

/-- (spandrel/member.row).seq -/
def ac60 : ACode := (.seq (.region [⟨(some 2), (.box (.tmp 0)), none⟩, ⟨(some 3), (.box (.tmp 1)), none⟩, ⟨(some 4), (.move (.const (.bool false))), none⟩]) (.seq (.seq (.region [⟨(some 9), (.fieldAddr 3 (.tmp 3)), none⟩, ⟨(some 10), (.load none (.tmp 9)), none⟩, ⟨(some 11), (.len false (.tmp 10)), none⟩, ⟨(some 12), (.fieldAddr 4 (.tmp 3)), none⟩, ⟨(some 13), (.load none (.tmp 12)), none⟩, ⟨(some 14), (.len false (.tmp 13)), none⟩, ⟨(some 15), (.bin .neq (.tmp 11) (.tmp 14)), none⟩]) (.cond (.tmp 15) (.seq (.region [⟨(some 4), (.move (.const (.bool false))), none⟩]) .ret) .skip)) (.seq (.draw [⟨(some 16), (.fieldAddr 3 (.tmp 3)), none⟩, ⟨(some 17), (.load none (.tmp 16)), none⟩, ⟨(some 18), (.fieldAddr 4 (.tmp 3)), none⟩, ⟨(some 19), (.load none (.tmp 18)), none⟩, ⟨(some 5), (.move (.tmp 17)), none⟩, ⟨(some 6), (.move (.tmp 19)), none⟩]) (.seq (.seq (.region [⟨(some 20), (.load (some 3) (.tmp 2)), none⟩, ⟨(some 21), (.call (.func 29) [((.tmp 20), false)]), none⟩, ⟨(some 22), (.len false (.tmp 21)), none⟩, ⟨(some 23), (.move (.const (.int .i64 0))), none⟩]) (.block 0 (.loop (.seq (.region [⟨(some 24), (.bin .lss (.tmp 23) (.tmp 22)), none⟩]) (.seq (.cond (.tmp 24) .skip (.exit 0)) (.seq (.block 1 (.seq (.region [⟨(some 25), (.move (.tmp 23)), none⟩, ⟨(some 26), (.indexAddr 4 (.tmp 21) (.tmp 23)), none⟩, ⟨(some 27), (.load (some 4) (.tmp 26)), none⟩, ⟨(some 8), (.alloc [(.lit (.string (⟨#[]⟩ : ByteArray))), (.lit (.int .i64 0)), (.lit (.bool false)), (.sl .full [])]), none⟩, ⟨(some 7), (.move (.tmp 25)), none⟩, ⟨none, (.store 4 (.tmp 8) (.tmp 27)), none⟩]) (.block 2 (.seq (.draw [⟨(some 29), (.move (.tmp 5)), none⟩, ⟨(some 30), (.len false (.tmp 29)), none⟩, ⟨(some 31), (.bin .gtr (.tmp 30) (.const (.int .i64 0))), none⟩, ⟨(some 32), (.move (.tmp 31)), none⟩, ⟨(some 33), (.move (.tmp 5)), (some (32, true))⟩, ⟨(some 34), (.indexAddr 1 (.tmp 33) (.const (.int .i64 0))), (some (32, true))⟩, ⟨(some 35), (.load none (.tmp 34)), (some (32, true))⟩, ⟨(some 36), (.fieldAddr 0 (.tmp 8)), (some (32, true))⟩, ⟨(some 37), (.load none (.tmp 36)), (some (32, true))⟩, ⟨(some 38), (.bin .eql (.tmp 35) (.tmp 37)), (some (32, true))⟩, ⟨(some 39), (.pick (.tmp 32) (.tmp 38) (.const (.bool false))), none⟩, ⟨(some 28), (.move (.tmp 39)), none⟩]) (.cond (.tmp 28) (.seq (.seq (.draw [⟨(some 40), (.load (some 3) (.tmp 2)), none⟩, ⟨(some 41), (.fieldAddr 1 (.tmp 8)), none⟩, ⟨(some 42), (.load none (.tmp 41)), none⟩, ⟨(some 43), (.call (.func 33) [((.tmp 40), false), ((.tmp 42), false)]), none⟩, ⟨(some 44), (.move (.tmp 6)), none⟩, ⟨(some 45), (.indexAddr 5 (.tmp 44) (.const (.int .i64 0))), none⟩, ⟨(some 46), (.load (some 5) (.tmp 45)), none⟩, ⟨(some 47), (.call (.func 42) [((.tmp 43), false), ((.tmp 46), false)]), none⟩, ⟨(some 48), (.un .not (.tmp 47)), none⟩]) (.cond (.tmp 48) (.seq (.region [⟨(some 4), (.move (.const (.bool false))), none⟩]) .ret) .skip)) (.draw [⟨(some 49), (.move (.tmp 5)), none⟩, ⟨(some 50), (.slice 1 (.tmp 49) (some (.const (.int .i64 1))) none), none⟩, ⟨(some 51), (.move (.tmp 6)), none⟩, ⟨(some 52), (.slice 5 (.tmp 51) (some (.const (.int .i64 1))) none), none⟩, ⟨(some 5), (.move (.tmp 50)), none⟩, ⟨(some 6), (.move (.tmp 52)), none⟩])) (.seq (.region [⟨(some 54), (.move (.tmp 7)), none⟩, ⟨(some 55), (.load (some 3) (.tmp 2)), none⟩, ⟨(some 56), (.call (.func 34) [((.tmp 55), false)]), none⟩, ⟨(some 57), (.field 8 none (.tmp 56)), none⟩, ⟨(some 58), (.len false (.tmp 57)), none⟩, ⟨(some 59), (.bin .lss (.tmp 54) (.tmp 58)), none⟩, ⟨(some 60), (.move (.tmp 59)), none⟩, ⟨(some 61), (.fieldAddr 2 (.tmp 8)), (some (60, true))⟩, ⟨(some 62), (.load none (.tmp 61)), (some (60, true))⟩, ⟨(some 63), (.un .not (.tmp 62)), (some (60, true))⟩, ⟨(some 64), (.pick (.tmp 60) (.tmp 63) (.const (.bool false))), none⟩, ⟨(some 65), (.move (.tmp 64)), none⟩, ⟨(some 66), (.fieldAddr 3 (.tmp 8)), (some (65, true))⟩, ⟨(some 67), (.load none (.tmp 66)), (some (65, true))⟩, ⟨(some 68), (.len false (.tmp 67)), (some (65, true))⟩, ⟨(some 69), (.bin .eql (.tmp 68) (.const (.int .i64 0))), (some (65, true))⟩, ⟨(some 70), (.pick (.tmp 65) (.tmp 69) (.const (.bool false))), none⟩, ⟨(some 53), (.move (.tmp 70)), none⟩]) (.cond (.tmp 53) (.seq (.region [⟨(some 4), (.move (.const (.bool false))), none⟩]) .ret) .skip))))))) (.region [⟨(some 71), (.bin .add (.tmp 23) (.const (.int .i64 1))), none⟩, ⟨(some 23), (.move (.tmp 71)), none⟩]))))))) (.seq (.region [⟨(some 72), (.move (.tmp 5)), none⟩, ⟨(some 73), (.len false (.tmp 72)), none⟩, ⟨(some 74), (.bin .eql (.tmp 73) (.const (.int .i64 0))), none⟩, ⟨(some 4), (.move (.tmp 74)), none⟩]) .ret)))))
theorem c60 : cfn E0.P [] Tryz.f60 = some (ac60, [(.tmp 4)], 75) := by kernel_rfl

theorem take_map_len {α β : Type} (f : α → β) (l : List α) : List.take l.length (l.map f) = l.map f := List.take_of_length_le (by simp)
def must (np i : Nat) (f : Fld) : Bool := decide (i < np) && (!f.opt && decide (f.dfl.length = 0))
def seqW (B : Int → Val → Bool) (np : Nat) : Nat → List Fld → List ByteArray → List Val → Bool
  | _, [], ns, _ => decide (ns.length = 0)
  | i, f :: fs, [], l => !must np i f && seqW B np (i + 1) fs [] l
  | i, f :: fs, x :: xs, l => if decide (x = f.name) then (match l with | [] => true | y :: _ => B f.t y) && seqW B np (i + 1) fs xs l.tail else !must np i f && seqW B np (i + 1) fs (x :: xs) l
def seqF (B : Int → Val → Bool) (r : Dsc) (v : Val) : Bool := decide (v.names.length = v.l.length) && seqW B r.parts.length 0 r.fields v.names v.l

set_option maxHeartbeats 4000000 in
theorem seq_ev (d : List Dsc) (n : Nat) (r : Dsc) (room : Nat) (hroom : room < 40) (v : Val) (B : Int → Val → Bool) (hr : d[n]? = some r) (hm : BD (2 ^ 30) r) (hv : mxV v ≤ 2 ^ 48)
    (hB : ∀ f, f ∈ r.fields → ∀ x, x ∈ v.l → ∀ h, EvR E0 42 [rowv d f.t room, valv x] h (boolv (B f.t x))) (h : List AObj) :
    EvR E0 60 [rowv d n ((room + 1 : Nat) : Int), valv v] h (boolv (seqF B r v)) := by
  refine ev_of (fn := Tryz.f60) (hs := []) Tryz.func60 c60 (by simp) fun hcl => ?_
  have hV := mxV_le v
  have l1 := mxB_len v.names
  have l3 := mxVs_len v.l
  have hfl : r.parts.length + r.adds.length ≤ 2 ^ 40 := by have := hm.2.2.2.2.1; have := hm.2.2.2.2.2.1; omega
  have hf := fun h => fields_ev d n r ((room + 1 : Nat) : Int) hr hfl h
  have hfl2 : r.fields.length < 2 ^ 60 := by simp only [Dsc.fields, List.length_append]; omega
  have ho := fun h => own_ev d n r ((room + 1 : Nat) : Int) hr h
  have hbl := fun m h => below_ev d n ((room + 1 : Nat) : Int) m (by constructor <;> omega) h
  have hro : ((room + 1 : Nat) : Int) - 1 = room := by omega
  rw [hro] at hbl
  simp only [dscv_eq] at ho
  have d0 : decide ((v.names.length : Int) = (v.l.length : Int)) = decide (v.names.length = v.l.length) := by rw [decide_eq_decide]; omega
  unfold seqF
  generalize hR : seqW B r.parts.length 0 r.fields v.names v.l = R
  simp only [ac60, valv_eq, d0, aw20, List.take_succ_cons, List.take_zero, List.drop_zero, List.drop_succ_cons, List.length_map, ↓awD, awP, Nat.reduceLeDiff, Nat.reduceEqDiff, Nat.reduceAdd, Nat.zero_add, Int.cast_ofNat_Int, Int.reduceLT, Int.reduceLE, Int.reduceEq]
  repeat' (first | ((first | refine EvF.ret (hf _) ?_ | refine EvRF.ret (hf _) ?_); simp only [d0, aw21, aw20, List.take_succ_cons, List.take_zero, List.drop_zero, List.drop_succ_cons, List.length_map, ↓awD, awP, Nat.reduceLeDiff, Nat.reduceEqDiff, Nat.reduceAdd, Nat.zero_add, Int.cast_ofNat_Int, Int.reduceLT, Int.reduceLE, Int.reduceEq]) | (refine BrF.mk (fun hb => ?_) (fun hb => ?_) <;> (try rw [hb]) <;> simp only [d0, aw21, aw20, List.take_succ_cons, List.take_zero, List.drop_zero, List.drop_succ_cons, List.length_map, ↓awD, awP, Nat.reduceLeDiff, Nat.reduceEqDiff, Nat.reduceAdd, Nat.zero_add, Int.cast_ofNat_Int, Int.reduceLT, Int.reduceLE, Int.reduceEq]))
  rotate_left
  · (refine Fin.end hcl rfl (by first | rfl | exact (List.append_nil _).symm | (simp only [List.append_assoc]; rfl)) ⟨?_, rfl⟩; first | rfl | ((try simp only [dnat, decide_eq_true_eq, decide_eq_false_iff_not, List.length_eq_zero_iff, List.length_pos_iff] at *); first | (simp [*, seqF]; done) | (simp [*, seqF]; omega) | (clear hcl; simp [*, seqF] <;> grind) | (simp [*, seqF])))
  generalize hHd : h ++ [AObj.cells [dscl d, i64 n, i64 ((room + 1 : Nat) : Int)]] ++ [AObj.cells [i64 v.kind, i64 v.n, str v.s, strl v.names, vall v.l]] = H
  have hg0 : H[h.length]? = some (AObj.cells [dscl d, i64 n, i64 ((room + 1 : Nat) : Int)]) := by rw [← hHd]; exact geta _ _ _
  have hg1 := fun J => app_get hg0 J
  have hg2 := fun J (o : AObj) => app_get (hg1 J) [o]
  refine LoopF.list r.fields hfl2 (γ := List ByteArray × List Val × List AObj) (fun i g => ⟨[(2, .ref h.length 0), (5, strl g.1), (6, vall g.2.1), (21, fldl r.fields), (22, i64 r.fields.length), (23, i64 i)], H ++ g.2.2⟩)
    (fun i g => g.1.length = g.2.1.length ∧ g.1.length < 2 ^ 50 ∧ (∀ y, y ∈ g.2.1 → y ∈ v.l) ∧ seqW B r.parts.length i (r.fields.drop i) g.1 g.2.1 = R) (v.names, v.l, []) ?_ (weak_of (by simp) (by simp [look])) ?_ ?_
  · exact ⟨by simpa using hb, by simp only; omega, fun y hy => hy, by simpa using hR⟩
  · rintro i f ⟨ns, l, J⟩ ha ⟨hl1, hl2, hl3, hv⟩ hi e1 w3
    rw [drop_get ha] at hv
    have hga := map_get fldv r.fields i f ha
    simp only [e1, w3, hg1, hg2, getJ, setJ, aw20, List.take_succ_cons, List.take_zero, List.drop_zero, List.drop_succ_cons, List.length_map, ↓awD, awP, Nat.reduceLeDiff, Nat.reduceEqDiff, Nat.reduceAdd, Nat.zero_add, Int.cast_ofNat_Int, Int.reduceLT, Int.reduceLE, Int.reduceEq]
    ((first | refine Need.mk (by first | (first | omega | (simp only [decide_eq_true_eq, decide_eq_false_iff_not, Bool.and_eq_true, Bool.not_eq_true', Bool.not_eq_false', List.length_map] at *; omega) | (simp; omega)) | (constructor <;> (first | omega | (simp only [decide_eq_true_eq, decide_eq_false_iff_not, Bool.and_eq_true, Bool.not_eq_true', Bool.not_eq_false', List.length_map] at *; omega) | (simp; omega)))) (Elem.recs hga (by first | (rw [fldv_eq]; exact ⟨rfl, rfl⟩) | exact ⟨rfl, rfl⟩) ?_) | refine Elem.recs hga (by first | (rw [fldv_eq]; exact ⟨rfl, rfl⟩) | exact ⟨rfl, rfl⟩) ?_); simp only [fldv_eq, aw21, aw21, aw20, List.take_succ_cons, List.take_zero, List.drop_zero, List.drop_succ_cons, List.length_map, ↓awD, awP, Nat.reduceLeDiff, Nat.reduceEqDiff, Nat.reduceAdd, Nat.zero_add, Int.cast_ofNat_Int, Int.reduceLT, Int.reduceLE, Int.reduceEq])
    have d1 : decide ((i : Int) < (r.parts.length : Int)) = decide (i < r.parts.length) := by rw [decide_eq_decide]; omega
    have d2 : decide ((f.dfl.length : Int) = 0) = decide (f.dfl.length = 0) := by rw [decide_eq_decide]; omega
    have hfm := List.mem_of_getElem? ha
    cases ns with
    | nil =>
      have z1 : decide ((0 : Int) < ((([] : List ByteArray).length : Nat) : Int)) = false := rfl
      simp only [seqW, must] at hv
      simp only [z1, w3, d1, d2, hg1, hg2, getJ, setJ, aw20, List.take_succ_cons, List.take_zero, List.drop_zero, List.drop_succ_cons, List.length_map, ↓awD, awP, Nat.reduceLeDiff, Nat.reduceEqDiff, Nat.reduceAdd, Nat.zero_add, Int.cast_ofNat_Int, Int.reduceLT, Int.reduceLE, Int.reduceEq]
      repeat' (first | ((first | refine EvF.ret (ho _) ?_ | refine EvRF.ret (ho _) ?_); simp only [w3, d1, d2, hg1, hg2, getJ, setJ, aw21, aw20, List.take_succ_cons, List.take_zero, List.drop_zero, List.drop_succ_cons, List.length_map, ↓awD, awP, Nat.reduceLeDiff, Nat.reduceEqDiff, Nat.reduceAdd, Nat.zero_add, Int.cast_ofNat_Int, Int.reduceLT, Int.reduceLE, Int.reduceEq]) | (refine BrF.mk (fun hb => ?_) (fun hb => ?_) <;> (try rw [hb]) <;> simp only [w3, d1, d2, hg1, hg2, getJ, setJ, aw21, aw20, List.take_succ_cons, List.take_zero, List.drop_zero, List.drop_succ_cons, List.length_map, ↓awD, awP, Nat.reduceLeDiff, Nat.reduceEqDiff, Nat.reduceAdd, Nat.zero_add, Int.cast_ofNat_Int, Int.reduceLT, Int.reduceLE, Int.reduceEq]))
      all_goals (simp only [*, Bool.not_true, Bool.not_false, Bool.true_and, Bool.false_and, Bool.and_true, Bool.and_false, if_true, if_false, Bool.false_eq_true] at hv)
      · exact ⟨(i + 1, [], l, J ++ [_]), ⟨hi, by first | exact hl1 | simpa using hl1, by first | exact hl2 | (simp only [List.length_cons] at hl2 ⊢; omega), by first | exact hl3 | exact fun y hy => hl3 y (List.mem_cons_of_mem _ hy), hv⟩, by simp only; omega, weak_of (List.append_assoc ..).symm (by simp [look, take_map_len])⟩
      all_goals first | exact ⟨(i + 1, [], l, J ++ [_]), ⟨hi, by first | exact hl1 | simpa using hl1, by first | exact hl2 | (simp only [List.length_cons] at hl2 ⊢; omega), by first | exact hl3 | exact fun y hy => hl3 y (List.mem_cons_of_mem _ hy), hv⟩, by simp only; omega, weak_of (List.append_assoc ..).symm (by simp [look, take_map_len])⟩ | (subst hv; exact Fin.end hcl rfl (by rw [← hHd]; simp only [List.append_assoc]; rfl) ⟨rfl, rfl⟩)
    | cons x xs =>
      cases l with
      | nil => simp at hl1
      | cons y ys =>
        have z1 : decide ((0 : Int) < ((xs.length + 1 : Nat) : Int)) = true := by simp
        have hgx : (List.map str (x :: xs))[0]? = some (str x) := rfl
        have hgy : (List.map valv (y :: ys))[0]? = some (valv y) := rfl
        have hsx : ∀ e, e ∈ str x :: List.map str xs → e.sure = true ∧ e.cells.length = 1 := by
          intro e he
          obtain ⟨z, _, rfl⟩ := List.mem_map.1 (show e ∈ List.map str (x :: xs) from he)
          exact ⟨rfl, rfl⟩
        have hsy : ∀ e, e ∈ valv y :: List.map valv ys → e.sure = true ∧ e.cells.length = 5 := by
          intro e he
          obtain ⟨z, _, rfl⟩ := List.mem_map.1 (show e ∈ List.map valv (y :: ys) from he)
          rw [valv_eq]
          exact ⟨rfl, rfl⟩
        have hBy := hB f hfm y (hl3 y (List.mem_cons_self))
        simp only [valv_eq] at hBy
        simp only [seqW, must] at hv
        simp only [z1, w3, d1, d2, hg1, hg2, getJ, setJ, aw20, List.take_succ_cons, List.take_zero, List.drop_zero, List.drop_succ_cons, List.length_map, ↓awD, awP, Nat.reduceLeDiff, Nat.reduceEqDiff, Nat.reduceAdd, Nat.zero_add, Int.cast_ofNat_Int, Int.reduceLT, Int.reduceLE, Int.reduceEq]
        repeat' (first | (refine Need.mk ⟨by omega, by omega, Or.inr hsx⟩ ?_; simp only [z1, w3, d1, d2, hg1, hg2, getJ, setJ, aw20, List.take_succ_cons, List.take_zero, List.drop_zero, List.drop_succ_cons, List.length_map, ↓awD, awP, Nat.reduceLeDiff, Nat.reduceEqDiff, Nat.reduceAdd, Nat.zero_add, Int.cast_ofNat_Int, Int.reduceLT, Int.reduceLE, Int.reduceEq]) | (refine Need.mk ⟨by omega, by omega, Or.inr hsy⟩ ?_; simp only [z1, w3, d1, d2, hg1, hg2, getJ, setJ, aw20, List.take_succ_cons, List.take_zero, List.drop_zero, List.drop_succ_cons, List.length_map, ↓awD, awP, Nat.reduceLeDiff, Nat.reduceEqDiff, Nat.reduceAdd, Nat.zero_add, Int.cast_ofNat_Int, Int.reduceLT, Int.reduceLE, Int.reduceEq]) | ((first | refine Need.mk (by first | (first | omega | (simp only [decide_eq_true_eq, decide_eq_false_iff_not, Bool.and_eq_true, Bool.not_eq_true', Bool.not_eq_false', List.length_map] at *; omega) | (simp; omega)) | (constructor <;> (first | omega | (simp only [decide_eq_true_eq, decide_eq_false_iff_not, Bool.and_eq_true, Bool.not_eq_true', Bool.not_eq_false', List.length_map] at *; omega) | (simp; omega)))) (Elem.recs hgx (by first | (rw [aw21]; exact ⟨rfl, rfl⟩) | exact ⟨rfl, rfl⟩) ?_) | refine Elem.recs hgx (by first | (rw [aw21]; exact ⟨rfl, rfl⟩) | exact ⟨rfl, rfl⟩) ?_); simp only [aw21, z1, w3, d1, d2, hg1, hg2, getJ, setJ, aw21, aw20, List.take_succ_cons, List.take_zero, List.drop_zero, List.drop_succ_cons, List.length_map, ↓awD, awP, Nat.reduceLeDiff, Nat.reduceEqDiff, Nat.reduceAdd, Nat.zero_add, Int.cast_ofNat_Int, Int.reduceLT, Int.reduceLE, Int.reduceEq]) | ((first | refine Need.mk (by first | (first | omega | (simp only [decide_eq_true_eq, decide_eq_false_iff_not, Bool.and_eq_true, Bool.not_eq_true', Bool.not_eq_false', List.length_map] at *; omega) | (simp; omega)) | (constructor <;> (first | omega | (simp only [decide_eq_true_eq, decide_eq_false_iff_not, Bool.and_eq_true, Bool.not_eq_true', Bool.not_eq_false', List.length_map] at *; omega) | (simp; omega)))) (Elem.recs hgy (by first | (rw [valv_eq]; exact ⟨rfl, rfl⟩) | exact ⟨rfl, rfl⟩) ?_) | refine Elem.recs hgy (by first | (rw [valv_eq]; exact ⟨rfl, rfl⟩) | exact ⟨rfl, rfl⟩) ?_); simp only [valv_eq, z1, w3, d1, d2, hg1, hg2, getJ, setJ, aw21, aw20, List.take_succ_cons, List.take_zero, List.drop_zero, List.drop_succ_cons, List.length_map, ↓awD, awP, Nat.reduceLeDiff, Nat.reduceEqDiff, Nat.reduceAdd, Nat.zero_add, Int.cast_ofNat_Int, Int.reduceLT, Int.reduceLE, Int.reduceEq]) | ((first | refine EvF.ret (ho _) ?_ | refine EvRF.ret (ho _) ?_); simp only [z1, w3, d1, d2, hg1, hg2, getJ, setJ, aw21, aw20, List.take_succ_cons, List.take_zero, List.drop_zero, List.drop_succ_cons, List.length_map, ↓awD, awP, Nat.reduceLeDiff, Nat.reduceEqDiff, Nat.reduceAdd, Nat.zero_add, Int.cast_ofNat_Int, Int.reduceLT, Int.reduceLE, Int.reduceEq]) | ((first | refine EvF.ret (hbl _ _) ?_ | refine EvRF.ret (hbl _ _) ?_); simp only [z1, w3, d1, d2, hg1, hg2, getJ, setJ, aw21, aw20, List.take_succ_cons, List.take_zero, List.drop_zero, List.drop_succ_cons, List.length_map, ↓awD, awP, Nat.reduceLeDiff, Nat.reduceEqDiff, Nat.reduceAdd, Nat.zero_add, Int.cast_ofNat_Int, Int.reduceLT, Int.reduceLE, Int.reduceEq]) | ((first | refine EvF.ret (hBy _) ?_ | refine EvRF.ret (hBy _) ?_); simp only [z1, w3, d1, d2, hg1, hg2, getJ, setJ, aw21, aw20, List.take_succ_cons, List.take_zero, List.drop_zero, List.drop_succ_cons, List.length_map, ↓awD, awP, Nat.reduceLeDiff, Nat.reduceEqDiff, Nat.reduceAdd, Nat.zero_add, Int.cast_ofNat_Int, Int.reduceLT, Int.reduceLE, Int.reduceEq]) | (refine BrF.mk (fun hb => ?_) (fun hb => ?_) <;> (try rw [hb]) <;> simp only [z1, w3, d1, d2, hg1, hg2, getJ, setJ, aw21, aw20, List.take_succ_cons, List.take_zero, List.drop_zero, List.drop_succ_cons, List.length_map, ↓awD, awP, Nat.reduceLeDiff, Nat.reduceEqDiff, Nat.reduceAdd, Nat.zero_add, Int.cast_ofNat_Int, Int.reduceLT, Int.reduceLE, Int.reduceEq]))
        all_goals (simp only [*, Bool.not_true, Bool.not_false, Bool.true_and, Bool.false_and, Bool.and_true, Bool.and_false, if_true, if_false, Bool.false_eq_true] at hv)
        all_goals first | exact ⟨(i + 1, x :: xs, y :: ys, J ++ [_]), ⟨hi, by first | exact hl1 | simpa using hl1, by first | exact hl2 | (simp only [List.length_cons] at hl2 ⊢; omega), by first | exact hl3 | exact fun y hy => hl3 y (List.mem_cons_of_mem _ hy), hv⟩, by simp only; omega, weak_of (List.append_assoc ..).symm (by simp [look, take_map_len])⟩ | exact ⟨(i + 1, xs, ys, J ++ [_]), ⟨hi, by first | exact hl1 | simpa using hl1, by first | exact hl2 | (simp only [List.length_cons] at hl2 ⊢; omega), by first | exact hl3 | exact fun y hy => hl3 y (List.mem_cons_of_mem _ hy), hv⟩, by simp only; omega, weak_of (List.append_assoc ..).symm (by simp [look, take_map_len])⟩ | (subst hv; exact Fin.end hcl rfl (by rw [← hHd]; simp only [List.append_assoc]; rfl) ⟨rfl, rfl⟩) | trace_state
  · rintro ⟨ns, l, J⟩ ⟨hl1, hl2, hl3, hv⟩ e1
    rw [drop_len] at hv
    simp only [seqW] at hv
    have d1 : decide ((ns.length : Int) = 0) = decide (ns.length = 0) := by rw [decide_eq_decide]; omega
    simp only [e1, d1, aw20, List.take_succ_cons, List.take_zero, List.drop_zero, List.drop_succ_cons, List.length_map, ↓awD, awP, Nat.reduceLeDiff, Nat.reduceEqDiff, Nat.reduceAdd, Nat.zero_add, Int.cast_ofNat_Int, Int.reduceLT, Int.reduceLE, Int.reduceEq]
    subst hv
    exact Fin.end hcl rfl (by rw [← hHd]; simp only [List.append_assoc]; rfl) ⟨rfl, rfl⟩
end Go.Abs.Fr

namespace Go.Abs.Fr
open Go Go.Abs Go.Proofs
set_option linter.unusedSimpArgs false
set_option maxRecDepth 100000

/-- (spandrel/member.row).choice -/
def ac61 : ACode := (.seq (.region [⟨(some 2), (.box (.tmp 0)), none⟩, ⟨(some 3), (.box (.tmp 1)), none⟩, ⟨(some 4), (.move (.const (.bool false))), none⟩]) (.seq (.region [⟨(some 7), (.load (some 3) (.tmp 2)), none⟩, ⟨(some 8), (.call (.func 29) [((.tmp 7), false)]), none⟩, ⟨(some 5), (.move (.tmp 8)), none⟩]) (.seq (.region [⟨(some 9), (.move (.tmp 5)), none⟩, ⟨(some 10), (.mkFunc (.func 74) [] [(.tmp 3)]), none⟩, ⟨(some 11), (.call (.func 73) [((.tmp 9), false), ((.tmp 10), false)]), none⟩, ⟨(some 6), (.move (.tmp 11)), none⟩]) (.seq (.draw [⟨(some 12), (.move (.tmp 6)), none⟩, ⟨(some 13), (.bin .geq (.tmp 12) (.const (.int .i64 0))), none⟩, ⟨(some 14), (.move (.tmp 13)), none⟩, ⟨(some 15), (.fieldAddr 4 (.tmp 3)), (some (14, true))⟩, ⟨(some 16), (.load none (.tmp 15)), (some (14, true))⟩, ⟨(some 17), (.len false (.tmp 16)), (some (14, true))⟩, ⟨(some 18), (.bin .eql (.tmp 17) (.const (.int .i64 1))), (some (14, true))⟩, ⟨(some 19), (.pick (.tmp 14) (.tmp 18) (.const (.bool false))), none⟩, ⟨(some 20), (.move (.tmp 19)), none⟩, ⟨(some 21), (.load (some 3) (.tmp 2)), (some (20, true))⟩, ⟨(some 22), (.move (.tmp 5)), (some (20, true))⟩, ⟨(some 23), (.move (.tmp 6)), (some (20, true))⟩, ⟨(some 24), (.indexAddr 4 (.tmp 22) (.tmp 23)), (some (20, true))⟩, ⟨(some 25), (.fieldAddr 1 (.tmp 24)), (some (20, true))⟩, ⟨(some 26), (.load none (.tmp 25)), (some (20, true))⟩, ⟨(some 27), (.call (.func 33) [((.tmp 21), false), ((.tmp 26), false)]), (some (20, true))⟩, ⟨(some 28), (.fieldAddr 4 (.tmp 3)), (some (20, true))⟩, ⟨(some 29), (.load none (.tmp 28)), (some (20, true))⟩, ⟨(some 30), (.indexAddr 5 (.tmp 29) (.const (.int .i64 0))), (some (20, true))⟩, ⟨(some 31), (.load (some 5) (.tmp 30)), (some (20, true))⟩, ⟨(some 32), (.call (.func 42) [((.tmp 27), false), ((.tmp 31), false)]), (some (20, true))⟩, ⟨(some 33), (.pick (.tmp 20) (.tmp 32) (.const (.bool false))), none⟩, ⟨(some 4), (.move (.tmp 33)), none⟩]) .ret))))
theorem c61 : cfn E0.P [] Tryz.f61 = some (ac61, [(.tmp 4)], 34) := by kernel_rfl
/-- (spandrel/member.row).choice$1 -/
def ac74 : ACode := (.seq (.region [⟨(some 2), (.box (.tmp 0)), none⟩, ⟨(some 3), (.move (.const (.bool false))), none⟩]) (.seq (.region [⟨(some 4), (.fieldAddr 0 (.tmp 2)), none⟩, ⟨(some 5), (.load none (.tmp 4)), none⟩, ⟨(some 6), (.fieldAddr 2 (.tmp 1)), none⟩, ⟨(some 7), (.load none (.tmp 6)), none⟩, ⟨(some 8), (.bin .eql (.tmp 5) (.tmp 7)), none⟩, ⟨(some 3), (.move (.tmp 8)), none⟩]) .ret))
theorem c74 : cfn E0.P [] Tryz.f74 = some (ac74, [(.tmp 3)], 9) := by kernel_rfl

theorem idx_find {α : Type} (p : α → Bool) : ∀ (l : List α) (i : Nat), (l.find? p = none ∧ idx p l i = -1) ∨ ∃ k a, l[k]? = some a ∧ l.find? p = some a ∧ idx p l i = ((i + k : Nat) : Int)
  | [], i => .inl ⟨rfl, rfl⟩
  | a :: l, i => by
    cases hp : p a
    · rcases idx_find p l (i + 1) with ⟨h1, h2⟩ | ⟨k, b, h1, h2, h3⟩
      · exact .inl ⟨by simp [hp, h1], by simp only [idx, hp, if_false, Bool.false_eq_true, h2]⟩
      · exact .inr ⟨k + 1, b, by simpa using h1, by simp [hp, h2], by simp only [idx, hp, if_false, Bool.false_eq_true, h3]; omega⟩
    · exact .inr ⟨0, a, rfl, by simp [hp], by simp [idx, hp]⟩

def oneF (B : Int → Val → Bool) (t : Int) (l : List Val) : Bool := match l with | [] => false | x :: _ => B t x
def choF (B : Int → Val → Bool) (r : Dsc) (v : Val) : Bool := match r.fields.find? (fun f => decide (f.name = v.s)) with | none => false | some f => decide (v.l.length = 1) && oneF B f.t v.l

theorem choice_ev (d : List Dsc) (n : Nat) (r : Dsc) (room : Nat) (hroom : room < 40) (v : Val) (B : Int → Val → Bool) (hr : d[n]? = some r) (hm : BD (2 ^ 30) r) (hv : mxV v ≤ 2 ^ 48)
    (hB : ∀ f, f ∈ r.fields → ∀ x, x ∈ v.l → ∀ h, EvR E0 42 [rowv d f.t room, valv x] h (boolv (B f.t x))) (h : List AObj) :
    EvR E0 61 [rowv d n ((room + 1 : Nat) : Int), valv v] h (boolv (choF B r v)) := by
  refine ev_of (fn := Tryz.f61) (hs := []) Tryz.func61 c61 (by simp) fun hcl => ?_
  have hV := mxV_le v
  have l3 := mxVs_len v.l
  have hfl : r.parts.length + r.adds.length ≤ 2 ^ 40 := by have := hm.2.2.2.2.1; have := hm.2.2.2.2.2.1; omega
  have hf := fun h => fields_ev d n r ((room + 1 : Nat) : Int) hr hfl h
  have hfl2 : r.fields.length < 2 ^ 60 := by simp only [Dsc.fields, List.length_append]; omega
  have hbl := fun m h => below_ev d n ((room + 1 : Nat) : Int) m (by constructor <;> omega) h
  have hro : ((room + 1 : Nat) : Int) - 1 = room := by omega
  rw [hro] at hbl
  have hc := fun (h' : List AObj) (id : Nat) (hid : h'[id]? = some (AObj.cells [i64 v.kind, i64 v.n, str v.s, strl v.names, vall v.l])) => fld_idx r.fields 74 [.ref id 0] (fun f => decide (f.name = v.s)) h' hfl2 fun x hx => by
    show EvR E0 74 [fldv x, .ref id 0] h' _
    refine ev_of (fn := Tryz.f74) (hs := []) Tryz.func74 c74 (by simp) fun hcl => ?_
    have hid2 := fun (l : List AObj) => app_get hid l
    simp only [ac74, fldv_eq, hid2, aw20, List.take_succ_cons, List.take_zero, List.drop_zero, List.drop_succ_cons, List.length_map, ↓awD, awP, Nat.reduceLeDiff, Nat.reduceEqDiff, Nat.reduceAdd, Nat.zero_add, Int.cast_ofNat_Int, Int.reduceLT, Int.reduceLE, Int.reduceEq]
    repeat' (refine BrF.mk (fun hb => ?_) (fun hb => ?_) <;> (try rw [hb]) <;> simp only [hid2, aw21, aw20, List.take_succ_cons, List.take_zero, List.drop_zero, List.drop_succ_cons, List.length_map, ↓awD, awP, Nat.reduceLeDiff, Nat.reduceEqDiff, Nat.reduceAdd, Nat.zero_add, Int.cast_ofNat_Int, Int.reduceLT, Int.reduceLE, Int.reduceEq])
    all_goals (refine Fin.end hcl rfl (by first | rfl | exact (List.append_nil _).symm | (simp only [List.append_assoc]; rfl)) ⟨?_, rfl⟩; first | rfl | ((try simp only [dnat, decide_eq_true_eq, decide_eq_false_iff_not, List.length_eq_zero_iff, List.length_pos_iff] at *); first | (simp [*, hid2]; done) | (simp [*, hid2]; omega) | (clear hcl; simp [*, hid2] <;> grind) | (simp [*, hid2])))
  simp only [ac61, valv_eq, aw20, List.take_succ_cons, List.take_zero, List.drop_zero, List.drop_succ_cons, List.length_map, ↓awD, awP, Nat.reduceLeDiff, Nat.reduceEqDiff, Nat.reduceAdd, Nat.zero_add, Int.cast_ofNat_Int, Int.reduceLT, Int.reduceLE, Int.reduceEq]
  repeat' ((first | refine EvF.ret (hf _) ?_ | refine EvRF.ret (hf _) ?_); simp only [aw21, aw21, aw20, List.take_succ_cons, List.take_zero, List.drop_zero, List.drop_succ_cons, List.length_map, ↓awD, awP, Nat.reduceLeDiff, Nat.reduceEqDiff, Nat.reduceAdd, Nat.zero_add, Int.cast_ofNat_Int, Int.reduceLT, Int.reduceLE, Int.reduceEq])
  generalize hHd : h ++ [AObj.cells [dscl d, i64 n, i64 ((room + 1 : Nat) : Int)]] ++ [AObj.cells [i64 v.kind, i64 v.n, str v.s, strl v.names, vall v.l]] = H
  have hg0 : H[h.length]? = some (AObj.cells [dscl d, i64 n, i64 ((room + 1 : Nat) : Int)]) := by rw [← hHd]; exact geta _ _ _
  have hg1 : H[(h ++ [AObj.cells [dscl d, i64 n, i64 ((room + 1 : Nat) : Int)]]).length]? = some (AObj.cells [i64 v.kind, i64 v.n, str v.s, strl v.names, vall v.l]) := by rw [← hHd]; simp
  repeat' ((first | refine EvF.ret (hc _ _ hg1) ?_ | refine EvRF.ret (hc _ _ hg1) ?_); simp only [hg0, hg1, aw21, aw20, List.take_succ_cons, List.take_zero, List.drop_zero, List.drop_succ_cons, List.length_map, ↓awD, awP, Nat.reduceLeDiff, Nat.reduceEqDiff, Nat.reduceAdd, Nat.zero_add, Int.cast_ofNat_Int, Int.reduceLT, Int.reduceLE, Int.reduceEq])
  have d1 : decide ((v.l.length : Int) = 1) = decide (v.l.length = 1) := by rw [decide_eq_decide]; omega
  have z0 : decide ((0 : Int) ≤ -1) = false := rfl
  rcases idx_find (fun f : Fld => decide (f.name = v.s)) r.fields 0 with ⟨e1, e2⟩ | ⟨k, f, e0, e1, e2⟩
  · simp only [choF, e1, e2, z0, hg0, hg1, aw20, List.take_succ_cons, List.take_zero, List.drop_zero, List.drop_succ_cons, List.length_map, ↓awD, awP, Nat.reduceLeDiff, Nat.reduceEqDiff, Nat.reduceAdd, Nat.zero_add, Int.cast_ofNat_Int, Int.reduceLT, Int.reduceLE, Int.reduceEq]
    exact Fin.end hcl rfl (by rw [← hHd]; simp only [List.append_assoc]; rfl) ⟨rfl, rfl⟩
  · have z1 : decide ((0 : Int) ≤ ((0 + k : Nat) : Int)) = true := by simp
    rw [Nat.zero_add] at e2 z1
    have hga := map_get fldv r.fields k f e0
    have hk := lt_len e0
    have hfm := List.mem_of_getElem? e0
    cases hvl : v.l with
    | nil =>
      rw [hvl] at hg1
      simp only [choF, e1, e2, z1, hg0, hg1, hvl, List.length_nil, aw20, List.take_succ_cons, List.take_zero, List.drop_zero, List.drop_succ_cons, List.length_map, ↓awD, awP, Nat.reduceLeDiff, Nat.reduceEqDiff, Nat.reduceAdd, Nat.zero_add, Int.cast_ofNat_Int, Int.reduceLT, Int.reduceLE, Int.reduceEq]
      exact Fin.end hcl rfl (by rw [← hHd]; simp only [List.append_assoc]; rfl) ⟨rfl, rfl⟩
    | cons y ys =>
      have hgy : (List.map valv (y :: ys))[0]? = some (valv y) := rfl
      have hBy := hB f hfm y (by rw [hvl]; exact List.mem_cons_self)
      simp only [valv_eq] at hBy
      rw [hvl] at hg1 d1
      have d2 : decide (((ys.length + 1 : Nat) : Int) = 1) = decide (ys.length = 0) := by rw [decide_eq_decide]; omega
      have d3 : decide (ys.length + 1 = 1) = decide (ys.length = 0) := by rw [decide_eq_decide]; omega
      simp only [choF, oneF, e1, e2, z1, d1, d2, d3, hg0, hg1, hvl, List.length_cons, aw20, List.take_succ_cons, List.take_zero, List.drop_zero, List.drop_succ_cons, List.length_map, ↓awD, awP, Nat.reduceLeDiff, Nat.reduceEqDiff, Nat.reduceAdd, Nat.zero_add, Int.cast_ofNat_Int, Int.reduceLT, Int.reduceLE, Int.reduceEq]
      repeat' (first | ((first | refine Need.mk (by first | (first | omega | (simp only [decide_eq_true_eq, decide_eq_false_iff_not, Bool.and_eq_true, Bool.not_eq_true', Bool.not_eq_false', List.length_map] at *; omega) | (simp; omega)) | (constructor <;> (first | omega | (simp only [decide_eq_true_eq, decide_eq_false_iff_not, Bool.and_eq_true, Bool.not_eq_true', Bool.not_eq_false', List.length_map] at *; omega) | (simp; omega)))) (Elem.recs hgy (by first | (rw [valv_eq]; exact ⟨rfl, rfl⟩) | exact ⟨rfl, rfl⟩) ?_) | refine Elem.recs hgy (by first | (rw [valv_eq]; exact ⟨rfl, rfl⟩) | exact ⟨rfl, rfl⟩) ?_); simp only [valv_eq, hg0, hg1, e2, d1, d2, d3, z1, aw21, aw20, List.take_succ_cons, List.take_zero, List.drop_zero, List.drop_succ_cons, List.length_map, ↓awD, awP, Nat.reduceLeDiff, Nat.reduceEqDiff, Nat.reduceAdd, Nat.zero_add, Int.cast_ofNat_Int, Int.reduceLT, Int.reduceLE, Int.reduceEq]) | ((first | refine Need.mk (by first | (first | omega | (simp only [decide_eq_true_eq, decide_eq_false_iff_not, Bool.and_eq_true, Bool.not_eq_true', Bool.not_eq_false', List.length_map] at *; omega) | (simp; omega)) | (constructor <;> (first | omega | (simp only [decide_eq_true_eq, decide_eq_false_iff_not, Bool.and_eq_true, Bool.not_eq_true', Bool.not_eq_false', List.length_map] at *; omega) | (simp; omega)))) (Elem.recs hga (by first | (rw [fldv_eq]; exact ⟨rfl, rfl⟩) | exact ⟨rfl, rfl⟩) ?_) | refine Elem.recs hga (by first | (rw [fldv_eq]; exact ⟨rfl, rfl⟩) | exact ⟨rfl, rfl⟩) ?_); simp only [fldv_eq, hg0, hg1, e2, d1, d2, d3, z1, aw21, aw20, List.take_succ_cons, List.take_zero, List.drop_zero, List.drop_succ_cons, List.length_map, ↓awD, awP, Nat.reduceLeDiff, Nat.reduceEqDiff, Nat.reduceAdd, Nat.zero_add, Int.cast_ofNat_Int, Int.reduceLT, Int.reduceLE, Int.reduceEq]) | ((first | refine EvF.ret (hbl _ _) ?_ | refine EvRF.ret (hbl _ _) ?_); simp only [hg0, hg1, e2, d1, d2, d3, z1, aw21, aw20, List.take_succ_cons, List.take_zero, List.drop_zero, List.drop_succ_cons, List.length_map, ↓awD, awP, Nat.reduceLeDiff, Nat.reduceEqDiff, Nat.reduceAdd, Nat.zero_add, Int.cast_ofNat_Int, Int.reduceLT, Int.reduceLE, Int.reduceEq]) | ((first | refine EvF.ret (hBy _) ?_ | refine EvRF.ret (hBy _) ?_); simp only [hg0, hg1, e2, d1, d2, d3, z1, aw21, aw20, List.take_succ_cons, List.take_zero, List.drop_zero, List.drop_succ_cons, List.length_map, ↓awD, awP, Nat.reduceLeDiff, Nat.reduceEqDiff, Nat.reduceAdd, Nat.zero_add, Int.cast_ofNat_Int, Int.reduceLT, Int.reduceLE, Int.reduceEq]) | (refine BrF.mk (fun hb => ?_) (fun hb => ?_) <;> (try rw [hb]) <;> simp only [hg0, hg1, e2, d1, d2, d3, z1, aw21, aw20, List.take_succ_cons, List.take_zero, List.drop_zero, List.drop_succ_cons, List.length_map, ↓awD, awP, Nat.reduceLeDiff, Nat.reduceEqDiff, Nat.reduceAdd, Nat.zero_add, Int.cast_ofNat_Int, Int.reduceLT, Int.reduceLE, Int.reduceEq]))
      all_goals exact Fin.end hcl rfl (by rw [← hHd]; simp only [List.append_assoc]; rfl) ⟨by simp only [e1, hvl, d3, List.length_cons, Bool.true_and, Bool.false_and, hb], rfl⟩
end Go.Abs.Fr
