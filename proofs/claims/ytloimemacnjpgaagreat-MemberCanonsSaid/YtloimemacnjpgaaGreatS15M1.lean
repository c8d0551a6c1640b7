/- Values of tables' types: the plain parts. -/
import Derived.Test.YtloimemacnjpgaaGreatS15RdV
import Derived.Test.YtloimemacnjpgaaGreatAbsIb
set_option linter.all false
namespace Go.Abs.Fr
open Go Go.Abs Go.Proofs
set_option linter.unusedSimpArgs false
set_option maxRecDepth 100000

def ac14 : ACode := (.seq (.region [oq 2 (.box (tq 0)), oq 3 (.box (tq 1)), oq 4 (.move (cb false))]) (.seq (.region [oq 5 (qf 0 2), oq 6 (ql 5), oq 7 (qf 0 3), oq 8 (ql 7), oq 9 (.bin .eql (tq 6) (tq 8)), oq 10 (qm 9), og 11 (qf 1 2) 10 true, og 12 (ql 11) 10 true, og 13 (qf 1 3) 10 true, og 14 (ql 13) 10 true, og 15 (.bin .eql (tq 12) (tq 14)) 10 true, oq 16 (.pick (tq 10) (tq 15) (cb false)), oq 17 (qm 16), og 18 (qf 2 2) 17 true, og 19 (ql 18) 17 true, og 20 (qf 2 3) 17 true, og 21 (ql 20) 17 true, og 22 (.bin .eql (tq 19) (tq 21)) 17 true, oq 23 (.pick (tq 17) (tq 22) (cb false)), oq 24 (qm 23), og 25 (qf 3 2) 24 true, og 26 (ql 25) 24 true, og 27 (qf 3 3) 24 true, og 28 (ql 27) 24 true, og 29 (.call (.func 23) [((tq 26), false), ((tq 28), false)]) 24 true, oq 30 (.pick (tq 24) (tq 29) (cb false)), oq 31 (qm 30), og 32 (qf 4 2) 31 true, og 33 (ql 32) 31 true, og 34 (qf 4 3) 31 true, og 35 (ql 34) 31 true, og 36 (.call (.func 24) [((tq 33), false), ((tq 35), false), ((.func 14), false)]) 31 true, oq 37 (.pick (tq 31) (tq 36) (cb false)), oq 4 (qm 37)]) .ret))
theorem c14 : cfn E0.P [] Tryz.f14 = some (ac14, [(.tmp 4)], 38) := by kernel_rfl
def ac25 : ACode := (.seq (.region [oq 2 (.box (tq 0)), oq 3 (.box (tq 1)), oq 4 (.move (cb false))]) (.seq (.region [oq 5 (qf 0 2), oq 6 (ql 5), oq 7 (.call (.func 40) [((tq 6), false)]), oq 8 (qm 7), og 9 (ql 3) 8 true, og 10 (.bin .eql (tq 9) (ci 0)) 8 true, og 11 (qm 10) 8 true, og 12 (qf 4 2) 11 false, og 13 (ql 12) 11 false, og 14 (.mkFunc (.func 41) [] [(tq 3)]) 11 false, og 15 (.call (.func 30) [((tq 13), false), ((tq 14), false)]) 11 false, og 16 (.pick (tq 11) (cb true) (tq 15)) 8 true, oq 17 (.pick (tq 8) (tq 16) (cb false)), oq 4 (qm 17)]) .ret))
theorem c25 : cfn E0.P [] Tryz.f25 = some (ac25, [(.tmp 4)], 18) := by kernel_rfl
def ac29 : ACode := (.seq (.region [oq 1 (.box (tq 0)), oq 2 (.move (.const (.slice none 0 0)))]) (.seq (.draw [oq 3 (qs 3 1), oq 4 (.call (.func 34) [((tq 3), false)]), oq 5 (.field 8 none (tq 4)), oq 6 (qs 3 1), oq 7 (.call (.func 34) [((tq 6), false)]), oq 8 (.field 9 none (tq 7)), oq 9 (.buildSlice false 1 [zn] 2 [(0, (tq 5)), (1, (tq 8))]), oq 10 (.call (.func 46) [((tq 9), false)]), oq 2 (qm 10)]) .ret))
theorem c29 : cfn E0.P [] Tryz.f29 = some (ac29, [(.tmp 2)], 11) := by kernel_rfl
def ac33 : ACode := (.seq (.region [oq 2 (.box (tq 0)), oq 4 (.alloc [zn, zi, zi])]) (.seq (.region [oq 5 (qf 0 2), oq 6 (ql 5), oq 7 (qm 1), oq 8 (qf 2 2), oq 9 (ql 8), oq 10 (.bin .sub (tq 9) (ci 1)), oq 11 (.build [zn, zi, zi] [(0, (1, (tq 6))), (1, (1, (tq 7))), (2, (1, (tq 10)))]), oz (.store 3 (tq 4) (tq 11))]) .ret))
theorem c33 : cfn E0.P [] Tryz.f33 = some (ac33, [(.cell 4 (some 3))], 12) := by kernel_rfl
def ac34 : ACode := (.seq (.region [oq 1 (.box (tq 0)), oq 2 (.alloc [zi, zb, zn, zi, zi, zs, zn, zn, zn, zn, zn, zi])]) (.seq (.region [oq 3 (qf 0 1), oq 4 (ql 3), oq 5 (qf 1 1), oq 6 (ql 5), oq 7 (qx 12 4 6), oq 8 (qs 12 7), oz (.store 12 (tq 2) (tq 8))]) .ret))
theorem c34 : cfn E0.P [] Tryz.f34 = some (ac34, [(.cell 2 (some 12))], 9) := by kernel_rfl
def ac40 : ACode := (.seq (.region [oq 2 (.move (cb false))]) (.seq (.region [oq 3 (qm 0), oq 4 (.bin .eql (tq 3) (ci 8)), oq 5 (qm 4), og 6 (qm 0) 5 false, og 7 (.bin .eql (tq 6) (ci 9)) 5 false, oq 8 (.pick (tq 5) (cb true) (tq 7)), oq 9 (qm 8), og 10 (qm 0) 9 false, og 11 (.bin .eql (tq 10) (ci 10)) 9 false, oq 12 (.pick (tq 9) (cb true) (tq 11)), oq 2 (qm 12)]) .ret))
theorem c40 : cfn E0.P [] Tryz.f40 = some (ac40, [(.tmp 2)], 13) := by kernel_rfl
def ac41 : ACode := (.seq (.region [oq 2 (.box (tq 0)), oq 3 (.move (cb false))]) (.seq (.region [oq 4 (qs 5 2), oq 5 (ql 1), oq 6 (.bin .sub (tq 5) (ci 1)), oq 7 (.call (.func 25) [((tq 4), false), ((tq 6), false)]), oq 3 (qm 7)]) .ret))
theorem c41 : cfn E0.P [] Tryz.f41 = some (ac41, [(.tmp 3)], 8) := by kernel_rfl

theorem parted_ev (k : Int) (h : List AObj) : EvR E0 40 [i64 k] h (boolv (parted k)) := by
  refine ev_of (fn := Tryz.f40) (hs := []) Tryz.func40 c40 (by simp) fun hcl => ?_
  simp only [ac40, awH, ↓awD, awP, Nat.reduceLeDiff, Nat.reduceEqDiff, Nat.reduceAdd, Int.reduceLT, Int.reduceLE, Int.reduceEq]
  repeat' (refine BrF.mk (fun hb => ?_) (fun hb => ?_) <;> (try rw [hb]) <;> simp only [aw21, aw21, awH, ↓awD, awP, Nat.reduceLeDiff, Nat.reduceEqDiff, Nat.reduceAdd, Int.reduceLT, Int.reduceLE, Int.reduceEq])
  all_goals (refine Fin.end hcl rfl (by first | rfl | exact (List.append_nil _).symm | (simp only [List.append_assoc]; rfl)) ⟨?_, rfl⟩; first | rfl | ((try simp only [dnat, decide_eq_true_eq, decide_eq_false_iff_not, List.length_eq_zero_iff, List.length_pos_iff] at *); first | (simp [*, parted]; done) | (simp [*, parted]; omega) | (clear hcl; simp [*, parted] <;> grind) | (simp [*, parted])))

theorem same_ev : ∀ (n : Nat) (a b : Val), szV a ≤ n → mxV a ≤ 2 ^ 48 → mxV b ≤ 2 ^ 48 → ∀ h, EvR E0 14 [valv a, valv b] h (boolv (eqV a b)) := by
  intro n
  induction n with
  | zero => intro a b hs; have := szV_eq a; omega
  | succ n ih =>
    intro a b hs ha hb h
    refine ev_of (fn := Tryz.f14) (hs := []) Tryz.func14 c14 (by simp) fun hcl => ?_
    have hA := mxV_le a
    have hB := mxV_le b
    have hsa := szV_eq a
    have l1 := mxB_len a.names
    have l2 := mxB_len b.names
    have l3 := mxVs_len a.l
    have l4 := mxVs_len b.l
    have h1 := fun h => strs_equal a.names b.names h (by omega) (by omega)
    have h2 := fun h => vals_equal a.l b.l eqV h (by omega) (by omega) 14 fun x y hx hy h' => ih x y (by have := szVs_mem hx; omega) (by have := mxVs_mem hx; omega) (by have := mxVs_mem hy; omega) h'
    simp only [ac14, valv_eq, awH, ↓awD, awP, Nat.reduceLeDiff, Nat.reduceEqDiff, Nat.reduceAdd, Int.reduceLT, Int.reduceLE, Int.reduceEq]
    repeat' (first | ((first | refine EvF.ret (h1 _) ?_ | refine EvRF.ret (h1 _) ?_); simp only [aw21, aw21, awH, ↓awD, awP, Nat.reduceLeDiff, Nat.reduceEqDiff, Nat.reduceAdd, Int.reduceLT, Int.reduceLE, Int.reduceEq]) | ((first | refine EvF.ret (h2 _) ?_ | refine EvRF.ret (h2 _) ?_); simp only [aw21, aw21, awH, ↓awD, awP, Nat.reduceLeDiff, Nat.reduceEqDiff, Nat.reduceAdd, Int.reduceLT, Int.reduceLE, Int.reduceEq]) | (refine BrF.mk (fun hb => ?_) (fun hb => ?_) <;> (try rw [hb]) <;> simp only [aw21, aw21, awH, ↓awD, awP, Nat.reduceLeDiff, Nat.reduceEqDiff, Nat.reduceAdd, Int.reduceLT, Int.reduceLE, Int.reduceEq]))
    all_goals (refine Fin.end hcl rfl (by first | rfl | exact (List.append_nil _).symm | (simp only [List.append_assoc]; rfl)) ⟨?_, rfl⟩; rw [eqV_eq]; (try simp only [dnat, decide_eq_true_eq, decide_eq_false_iff_not] at *); (first | (simp [*]; done) | (simp [*]; grind)))

theorem member_same_ev (a b : Val) (ha : mxV a ≤ 2 ^ 48) (hb : mxV b ≤ 2 ^ 48) (h : List AObj) : EvR E0 14 [valv a, valv b] h (boolv (eqV a b)) := same_ev _ a b (Nat.le_refl _) ha hb h

theorem deep_ev : ∀ (r : Nat), r ≤ 40 → ∀ (v : Val) (h : List AObj), mxV v ≤ 2 ^ 48 → EvR E0 25 [valv v, i64 r] h (boolv (deepV r v)) := by
  intro r
  induction r with
  | zero =>
    intro _ v h _
    refine ev_of (fn := Tryz.f25) (hs := []) Tryz.func25 c25 (by simp) fun hcl => ?_
    have hp := fun h => parted_ev v.kind h
    simp only [ac25, valv_eq, Int.cast_ofNat_Int, awH, ↓awD, awP, Nat.reduceLeDiff, Nat.reduceEqDiff, Nat.reduceAdd, Int.reduceLT, Int.reduceLE, Int.reduceEq]
    repeat' (first | ((first | refine EvF.ret (hp _) ?_ | refine EvRF.ret (hp _) ?_); simp only [aw21, aw21, awH, ↓awD, awP, Nat.reduceLeDiff, Nat.reduceEqDiff, Nat.reduceAdd, Int.reduceLT, Int.reduceLE, Int.reduceEq]) | (refine BrF.mk (fun hb => ?_) (fun hb => ?_) <;> (try rw [hb]) <;> simp only [aw21, aw21, awH, ↓awD, awP, Nat.reduceLeDiff, Nat.reduceEqDiff, Nat.reduceAdd, Int.reduceLT, Int.reduceLE, Int.reduceEq]))
    all_goals (refine Fin.end hcl rfl (by first | rfl | exact (List.append_nil _).symm | (simp only [List.append_assoc]; rfl)) ⟨?_, rfl⟩; first | rfl | ((try simp only [dnat, decide_eq_true_eq, decide_eq_false_iff_not, List.length_eq_zero_iff, List.length_pos_iff] at *); first | (simp [*, deepV]; done) | (simp [*, deepV]; omega) | (clear hcl; simp [*, deepV] <;> grind) | (simp [*, deepV])))
  | succ r ih =>
    intro hr v h hv
    have ih := ih (by omega)
    refine ev_of (fn := Tryz.f25) (hs := []) Tryz.func25 c25 (by simp) fun hcl => ?_
    have hV := mxV_le v
    have l3 := mxVs_len v.l
    have hp := fun h => parted_ev v.kind h
    have d0 : decide (((r + 1 : Nat) : Int) = 0) = false := by rw [decide_eq_false_iff_not]; omega
    have hc := fun (h' : List AObj) (id : Nat) (hid : h'[id]? = some (AObj.cells [i64 ((r + 1 : Nat) : Int)])) => val_any v.l 41 [.ref id 0] (deepV r) h' (by omega) fun x hx => by
      show EvR E0 41 [valv x, .ref id 0] h' (boolv (deepV r x))
      refine ev_of (fn := Tryz.f41) (hs := []) Tryz.func41 c41 (by simp) fun hcl => ?_
      have hx2 := fun h => ih x h (by have := mxVs_mem hx; omega)
      have w1 : IntKind.i64.wrap (((r + 1 : Nat) : Int) - 1) = (r : Int) := by rw [wrap_i64] <;> omega
      simp only [valv_eq] at hx2
      have hid2 := fun (l : List AObj) => app_get hid l
      simp only [ac41, valv_eq, hid2, awH, ↓awD, awP, Nat.reduceLeDiff, Nat.reduceEqDiff, Nat.reduceAdd, Int.reduceLT, Int.reduceLE, Int.reduceEq]
      simp only [w1, hid2, awH, ↓awD, awP, Nat.reduceLeDiff, Nat.reduceEqDiff, Nat.reduceAdd, Int.reduceLT, Int.reduceLE, Int.reduceEq]
      repeat' ((first | refine EvF.ret (hx2 _) ?_ | refine EvRF.ret (hx2 _) ?_); simp only [aw21, aw21, awH, ↓awD, awP, Nat.reduceLeDiff, Nat.reduceEqDiff, Nat.reduceAdd, Int.reduceLT, Int.reduceLE, Int.reduceEq])
      all_goals (refine Fin.end hcl rfl (by first | rfl | exact (List.append_nil _).symm | (simp only [List.append_assoc]; rfl)) ⟨?_, rfl⟩; first | rfl | ((try simp only [dnat, decide_eq_true_eq, decide_eq_false_iff_not, List.length_eq_zero_iff, List.length_pos_iff] at *); first | (simp [*, deepV]; done) | (simp [*, deepV]; omega) | (clear hcl; simp [*, deepV] <;> grind) | (simp [*, deepV])))
    simp only [ac25, valv_eq, d0, awH, ↓awD, awP, Nat.reduceLeDiff, Nat.reduceEqDiff, Nat.reduceAdd, Int.reduceLT, Int.reduceLE, Int.reduceEq]
    repeat' (first | ((first | refine EvF.ret (hp _) ?_ | refine EvRF.ret (hp _) ?_); simp only [d0, aw21, awH, ↓awD, awP, Nat.reduceLeDiff, Nat.reduceEqDiff, Nat.reduceAdd, Int.reduceLT, Int.reduceLE, Int.reduceEq]) | ((first | refine EvF.ret (hc _ _ (by simp)) ?_ | refine EvRF.ret (hc _ _ (by simp)) ?_); simp only [d0, aw21, awH, ↓awD, awP, Nat.reduceLeDiff, Nat.reduceEqDiff, Nat.reduceAdd, Int.reduceLT, Int.reduceLE, Int.reduceEq]) | (refine BrF.mk (fun hb => ?_) (fun hb => ?_) <;> (try rw [hb]) <;> simp only [d0, aw21, awH, ↓awD, awP, Nat.reduceLeDiff, Nat.reduceEqDiff, Nat.reduceAdd, Int.reduceLT, Int.reduceLE, Int.reduceEq]))
    all_goals (refine Fin.end hcl rfl (by first | rfl | exact (List.append_nil _).symm | (simp only [List.append_assoc]; rfl)) ⟨?_, rfl⟩; first | rfl | ((try simp only [dnat, decide_eq_true_eq, decide_eq_false_iff_not, List.length_eq_zero_iff, List.length_pos_iff] at *); first | (simp [*, deepV]; done) | (simp [*, deepV]; omega) | (clear hcl; simp [*, deepV] <;> grind) | (simp [*, deepV])))

abbrev rowv (d : List Dsc) (n : Int) (room : Int) : AV := .agg [dscl d, i64 n, i64 room]
theorem own_ev (d : List Dsc) (n : Nat) (r : Dsc) (room : Int) (hr : d[n]? = some r) (h : List AObj) : EvR E0 34 [rowv d n room] h (dscv r) := by
  refine ev_of (fn := Tryz.f34) (hs := []) Tryz.func34 c34 (by simp) fun hcl => ?_
  have hn := lt_len hr
  have hga := map_get dscv d n r hr
  simp only [ac34, awH, ↓awD, awP, Nat.reduceLeDiff, Nat.reduceEqDiff, Nat.reduceAdd, Int.reduceLT, Int.reduceLE, Int.reduceEq]
  ((try refine Need.mk (by first | (first | omega | (simp only [awO] at *; omega) | (simp; omega)) | (constructor <;> (first | omega | (simp only [awO] at *; omega) | (simp; omega)))) ?_); refine Elem.recs hga (by first | (rw [dscv_eq]; exact ⟨rfl, rfl⟩) | exact ⟨rfl, rfl⟩) ?_; simp only [dscv_eq, aw21, aw21, awH, ↓awD, awP, Nat.reduceLeDiff, Nat.reduceEqDiff, Nat.reduceAdd, Int.reduceLT, Int.reduceLE, Int.reduceEq])
  all_goals (refine Fin.end hcl (by first | rfl | (simp only [AV.under, unders, und_val, und_vals, und_strs, und_ints, und_rgs, und_flds, und_dsc, und_dscs, Bool.and_self, Bool.and_true, Bool.true_and])) (by first | rfl | exact (List.append_nil _).symm | (simp only [List.append_assoc]; rfl)) ⟨?_, rfl⟩; first | rfl | ((try simp only [dnat, decide_eq_true_eq, decide_eq_false_iff_not, List.length_eq_zero_iff, List.length_pos_iff] at *); first | (simp [*, dscv]; done) | (simp [*, dscv]; omega) | (clear hcl; simp [*, dscv] <;> grind) | (simp [*, dscv])))
theorem below_ev (d : List Dsc) (n : Int) (room m : Int) (hr : InR (room - 1)) (h : List AObj) : EvR E0 33 [rowv d n room, i64 m] h (rowv d m (room - 1)) := by
  refine ev_of (fn := Tryz.f33) (hs := []) Tryz.func33 c33 (by simp) fun hcl => ?_
  have w1 : IntKind.i64.wrap (room - 1) = room - 1 := wrap_i64 _ hr.1 hr.2
  simp only [ac33, w1, awH, ↓awD, awP, Nat.reduceLeDiff, Nat.reduceEqDiff, Nat.reduceAdd, Int.reduceLT, Int.reduceLE, Int.reduceEq]
  all_goals (refine Fin.end hcl (by first | rfl | (simp only [AV.under, unders, und_val, und_vals, und_strs, und_ints, und_rgs, und_flds, und_dsc, und_dscs, Bool.and_self, Bool.and_true, Bool.true_and])) (by first | rfl | exact (List.append_nil _).symm | (simp only [List.append_assoc]; rfl)) ⟨?_, rfl⟩; first | rfl | ((try simp only [dnat, decide_eq_true_eq, decide_eq_false_iff_not, List.length_eq_zero_iff, List.length_pos_iff] at *); first | (simp [*, rowv]; done) | (simp [*, rowv]; omega) | (clear hcl; simp [*, rowv] <;> grind) | (simp [*, rowv])))
theorem fields_ev (d : List Dsc) (n : Nat) (r : Dsc) (room : Int) (hr : d[n]? = some r) (hm : r.parts.length + r.adds.length ≤ 2 ^ 40) (h : List AObj) : EvR E0 29 [rowv d n room] h (fldl r.fields) := by
  refine ev_of (fn := Tryz.f29) (hs := []) Tryz.func29 c29 (by simp) fun hcl => ?_
  have h1 := fun h => own_ev d n r room hr h
  have h2 : ∀ h, EvR E0 46 [.sl .full [fldl r.parts, fldl r.adds]] h (fldl r.fields) := fun h => by
    have := flds_cat [r.parts, r.adds] h (by simp) (by simpa using hm)
    rw [show [r.parts, r.adds].flatten = r.fields by simp [Dsc.fields]] at this
    exact this
  simp only [dscv_eq] at h1
  simp only [ac29, awH, ↓awD, awP, Nat.reduceLeDiff, Nat.reduceEqDiff, Nat.reduceAdd, Int.reduceLT, Int.reduceLE, Int.reduceEq]
  repeat' (first | ((first | refine EvF.ret (h1 _) ?_ | refine EvRF.ret (h1 _) ?_); simp only [aw21, aw21, awH, ↓awD, awP, Nat.reduceLeDiff, Nat.reduceEqDiff, Nat.reduceAdd, Int.reduceLT, Int.reduceLE, Int.reduceEq]) | ((first | refine EvF.ret (h2 _) ?_ | refine EvRF.ret (h2 _) ?_); simp only [aw21, aw21, awH, ↓awD, awP, Nat.reduceLeDiff, Nat.reduceEqDiff, Nat.reduceAdd, Int.reduceLT, Int.reduceLE, Int.reduceEq]) | (refine Need.mk (by simp only [litParts, List.mem_cons, List.not_mem_nil, or_false, forall_eq_or_imp, forall_eq]; refine ⟨by decide, by decide, by decide, ?_⟩; repeat' (first | exact ⟨rfl, rfl, rfl⟩ | rfl | constructor)) ?_; simp only [aw21, awH, ↓awD, awP, Nat.reduceLeDiff, Nat.reduceEqDiff, Nat.reduceAdd, Int.reduceLT, Int.reduceLE, Int.reduceEq]))
  all_goals (refine Fin.end hcl (by first | rfl | (simp only [AV.under, unders, und_val, und_vals, und_strs, und_ints, und_rgs, und_flds, und_dsc, und_dscs, Bool.and_self, Bool.and_true, Bool.true_and])) (by first | rfl | exact (List.append_nil _).symm | (simp only [List.append_assoc]; rfl)) ⟨?_, rfl⟩; first | rfl | ((try simp only [dnat, decide_eq_true_eq, decide_eq_false_iff_not, List.length_eq_zero_iff, List.length_pos_iff] at *); first | (simp [*, dscv]; done) | (simp [*, dscv]; omega) | (clear hcl; simp [*, dscv] <;> grind) | (simp [*, dscv])))

def ac55 : ACode := (.seq (.region [oq 1 (.box (tq 0)), oq 2 (.move (cb false))]) (.seq (.region [oq 6 (qf 0 1), oq 7 (ql 6), oq 8 (.bin .eql (tq 7) (ci 1)), oq 9 (qm 8), og 10 (qf 0 1) 9 false, og 11 (ql 10) 9 false, og 12 (.bin .eql (tq 11) (ci 2)) 9 false, oq 13 (.pick (tq 9) (cb true) (tq 12)), oq 3 (qm 13)]) (.seq (.region [oq 14 (qf 0 1), oq 15 (ql 14), oq 16 (.bin .eql (tq 15) (ci 8)), oq 17 (qm 16), og 18 (qf 0 1) 17 false, og 19 (ql 18) 17 false, og 20 (.bin .eql (tq 19) (ci 9)) 17 false, oq 21 (.pick (tq 17) (cb true) (tq 20)), oq 22 (qm 21), og 23 (qf 0 1) 22 false, og 24 (ql 23) 22 false, og 25 (.bin .eql (tq 24) (ci 10)) 22 false, oq 26 (.pick (tq 22) (cb true) (tq 25)), oq 4 (qm 26)]) (.seq (.region [oq 27 (qm 3), oq 28 (.un .not (tq 27)), oq 29 (qm 28), og 30 (qf 0 1) 29 true, og 31 (ql 30) 29 true, og 32 (.bin .neq (tq 31) (ci 4)) 29 true, oq 33 (.pick (tq 29) (tq 32) (cb false)), oq 34 (qm 33), og 35 (qf 0 1) 34 true, og 36 (ql 35) 34 true, og 37 (.bin .neq (tq 36) (ci 8)) 34 true, oq 38 (.pick (tq 34) (tq 37) (cb false)), oq 39 (qm 38), og 40 (qf 0 1) 39 true, og 41 (ql 40) 39 true, og 42 (.bin .neq (tq 41) (ci 9)) 39 true, oq 43 (.pick (tq 39) (tq 42) (cb false)), oq 5 (qm 43)]) (.seq (.region [oq 44 (qm 3), oq 45 (qm 44), og 46 (qf 1 1) 45 false, og 47 (ql 46) 45 false, og 48 (.bin .eql (tq 47) (ci 0)) 45 false, oq 49 (.pick (tq 45) (cb true) (tq 48)), oq 50 (qm 49), og 51 (qm 4) 50 true, og 52 (qm 51) 50 true, og 53 (qf 4 1) 52 false, og 54 (ql 53) 52 false, og 55 (qn 54) 52 false, og 56 (.bin .eql (tq 55) (ci 0)) 52 false, og 57 (.pick (tq 52) (cb true) (tq 56)) 50 true, oq 58 (.pick (tq 50) (tq 57) (cb false)), oq 59 (qm 58), og 60 (qm 5) 59 true, og 61 (qm 60) 59 true, og 62 (qf 2 1) 61 false, og 63 (ql 62) 61 false, og 64 (.bin .eql (tq 63) (.const (.string (⟨#[]⟩ : ByteArray)))) 61 false, og 65 (.pick (tq 61) (cb true) (tq 64)) 59 true, oq 66 (.pick (tq 59) (tq 65) (cb false)), oq 67 (qm 66), og 68 (qf 0 1) 67 true, og 69 (ql 68) 67 true, og 70 (.bin .eql (tq 69) (ci 8)) 67 true, og 71 (qm 70) 67 true, og 72 (qf 3 1) 71 false, og 73 (ql 72) 71 false, og 74 (qn 73) 71 false, og 75 (.bin .eql (tq 74) (ci 0)) 71 false, og 76 (.pick (tq 71) (cb true) (tq 75)) 67 true, oq 77 (.pick (tq 67) (tq 76) (cb false)), oq 2 (qm 77)]) .ret)))))
theorem c55 : cfn E0.P [] Tryz.f55 = some (ac55, [(.tmp 2)], 78) := by kernel_rfl
def ac56 : ACode := (.seq (.region [oq 3 (.box (tq 1)), oq 4 (.move (cb false))]) (.seq (.region [oq 5 (qm 0), oq 6 (.mkFunc (.func 71) [] [(tq 3)]), oq 7 (.call (.func 70) [((tq 5), false), ((tq 6), false)]), oq 4 (qm 7)]) .ret))
theorem c56 : cfn E0.P [] Tryz.f56 = some (ac56, [(.tmp 4)], 8) := by kernel_rfl
def ac58 : ACode := (.seq (.region [oq 4 (.move (cb false))]) (.seq (.seq (.region [oq 6 (qm 0), oq 7 (.len true (tq 6)), oq 8 (.move (ci 0))]) (.block 0 (.loop (.seq (.region [oq 9 (.bin .lss (tq 8) (tq 7))]) (.seq (.cond (tq 9) .skip (.exit 0)) (.seq (.block 1 (.seq (.region [oq 10 (qm 8), oq 5 (qm 10)]) (.seq (.region [oq 11 (qm 0), oq 12 (qm 5), oq 13 (.indexS (tq 11) (tq 12)), oq 14 (.bin .geq (tq 13) (.const (.int .u8 128))), oq 15 (qm 14), og 16 (qm 1) 15 false, og 17 (.bin .neq (tq 16) (.const (.string (⟨#[]⟩ : ByteArray)))) 15 false, og 18 (qm 17) 15 false, og 19 (qm 1) 18 true, og 20 (.toBytes (tq 19)) 18 true, og 21 (qm 0) 18 true, og 22 (qm 5) 18 true, og 23 (.indexS (tq 21) (tq 22)) 18 true, og 24 (.call (.func 72) [((tq 20), false), ((tq 23), false)]) 18 true, og 25 (.bin .lss (tq 24) (ci 0)) 18 true, og 26 (.pick (tq 18) (tq 25) (cb false)) 15 false, oq 27 (.pick (tq 15) (cb true) (tq 26))]) (.cond (tq 27) (.seq (.region [oq 4 (.move (cb false))]) .ret) .skip)))) (.region [oq 28 (.bin .add (tq 8) (ci 1)), oq 8 (qm 28)]))))))) (.seq (.region [oq 4 (.move (cb true))]) .ret)))
theorem c58 : cfn E0.P [] Tryz.f58 = some (ac58, [(.tmp 4)], 29) := by kernel_rfl
def ac59 : ACode := (.seq (.region [oq 2 (.box (tq 0)), oq 4 (.move (cb false))]) (.seq (.region [oq 5 (qm 1), oq 6 (.bin .leq (tq 5) (ci 1048576)), oq 7 (qm 6), og 8 (qs 3 2) 7 true, og 9 (.call (.func 34) [((tq 8), false)]) 7 true, og 10 (.field 1 none (tq 9)) 7 true, og 11 (qm 10) 7 true, og 12 (qs 3 2) 11 false, og 13 (.call (.func 34) [((tq 12), false)]) 11 false, og 14 (.field 2 none (tq 13)) 11 false, og 15 (qm 1) 11 false, og 16 (.call (.func 56) [((tq 14), false), ((tq 15), false)]) 11 false, og 17 (.pick (tq 11) (cb true) (tq 16)) 7 true, oq 18 (.pick (tq 7) (tq 17) (cb false)), oq 4 (qm 18)]) .ret))
theorem c59 : cfn E0.P [] Tryz.f59 = some (ac59, [(.tmp 4)], 19) := by kernel_rfl
def ac71 : ACode := (.seq (.region [oq 2 (.box (tq 0)), oq 3 (.move (cb false))]) (.seq (.region [oq 4 (qf 0 2), oq 5 (ql 4), oq 6 (ql 1), oq 7 (.bin .leq (tq 5) (tq 6)), oq 8 (qm 7), og 9 (ql 1) 8 true, og 10 (qf 1 2) 8 true, og 11 (ql 10) 8 true, og 12 (.bin .leq (tq 9) (tq 11)) 8 true, oq 13 (.pick (tq 8) (tq 12) (cb false)), oq 3 (qm 13)]) .ret))
theorem c71 : cfn E0.P [] Tryz.f71 = some (ac71, [(.tmp 3)], 14) := by kernel_rfl
def ac72 : ACode := (.seq (.region [oq 4 (.move (ci 0))]) (.seq (.region [oq 5 (qm 0), oq 6 (qm 1), oq 7 (.call (.func 90) [((tq 5), false), ((tq 6), false)]), oq 4 (qm 7)]) .ret))
theorem c72 : cfn E0.P [] Tryz.f72 = some (ac72, [(.tmp 4)], 8) := by kernel_rfl

def bareV (v : Val) : Bool :=
  (decide (v.kind = 1) || decide (v.kind = 2) || decide (v.n = 0)) && (parted v.kind || decide (v.l.length = 0)) &&
  ((!(decide (v.kind = 1) || decide (v.kind = 2)) && (!decide (v.kind = 4) && (!decide (v.kind = 8) && !decide (v.kind = 9)))) || decide (v.s = ⟨#[]⟩)) && (decide (v.kind = 8) || decide (v.names.length = 0))
def inSet (l : List Rg) (n : Int) : Bool := l.any fun x => decide (x.lo ≤ n) && decide (n ≤ x.hi)
def chOk (frm : ByteArray) (c : UInt8) : Bool := decide (c.toNat < 128) && (decide (frm = ⟨#[]⟩) || frm.data.toList.any fun x => decide (x = c))
def textOk (s frm : ByteArray) : Bool := s.data.toList.all (chOk frm)
def sizedOk (r : Dsc) (n : Nat) : Bool := decide (n ≤ 1048576) && (r.ext || inSet r.set n)

theorem has_ev (l : List Rg) (n : Int) (hl : l.length < 2 ^ 60) (h : List AObj) : EvR E0 56 [rgl l, i64 n] h (boolv (inSet l n)) := by
  refine ev_of (fn := Tryz.f56) (hs := []) Tryz.func56 c56 (by simp) fun hcl => ?_
  have hc := fun (h' : List AObj) (id : Nat) (hid : h'[id]? = some (AObj.cells [i64 n])) => rg_any l 71 [.ref id 0] (fun x => decide (x.lo ≤ n) && decide (n ≤ x.hi)) h' hl fun x hx => by
    show EvR E0 71 [rgv x, .ref id 0] h' _
    refine ev_of (fn := Tryz.f71) (hs := []) Tryz.func71 c71 (by simp) fun hcl => ?_
    have hid2 := fun (l : List AObj) => app_get hid l
    simp only [ac71, rgv_eq, hid2, awH, ↓awD, awP, Nat.reduceLeDiff, Nat.reduceEqDiff, Nat.reduceAdd, Int.reduceLT, Int.reduceLE, Int.reduceEq]
    repeat' (refine BrF.mk (fun hb => ?_) (fun hb => ?_) <;> (try rw [hb]) <;> simp only [hid2, aw21, awH, ↓awD, awP, Nat.reduceLeDiff, Nat.reduceEqDiff, Nat.reduceAdd, Int.reduceLT, Int.reduceLE, Int.reduceEq])
    all_goals (refine Fin.end hcl rfl (by first | rfl | exact (List.append_nil _).symm | (simp only [List.append_assoc]; rfl)) ⟨?_, rfl⟩; first | rfl | ((try simp only [dnat, decide_eq_true_eq, decide_eq_false_iff_not, List.length_eq_zero_iff, List.length_pos_iff] at *); first | (simp [*, inSet]; done) | (simp [*, inSet]; omega) | (clear hcl; simp [*, inSet] <;> grind) | (simp [*, inSet])))
  simp only [ac56, awH, ↓awD, awP, Nat.reduceLeDiff, Nat.reduceEqDiff, Nat.reduceAdd, Int.reduceLT, Int.reduceLE, Int.reduceEq]
  repeat' (first | ((first | refine EvF.ret (hc _ _ (by simp)) ?_ | refine EvRF.ret (hc _ _ (by simp)) ?_); simp only [aw21, aw21, awH, ↓awD, awP, Nat.reduceLeDiff, Nat.reduceEqDiff, Nat.reduceAdd, Int.reduceLT, Int.reduceLE, Int.reduceEq]))
  all_goals (refine Fin.end hcl rfl (by first | rfl | exact (List.append_nil _).symm | (simp only [List.append_assoc]; rfl)) ⟨?_, rfl⟩; first | rfl | ((try simp only [dnat, decide_eq_true_eq, decide_eq_false_iff_not, List.length_eq_zero_iff, List.length_pos_iff] at *); first | (simp [*, inSet]; done) | (simp [*, inSet]; omega) | (clear hcl; simp [*, inSet] <;> grind) | (simp [*, inSet])))

set_option maxHeartbeats 8000000 in
theorem bare_ev (v : Val) (h : List AObj) : EvR E0 55 [valv v] h (boolv (bareV v)) := by
  refine ev_of (fn := Tryz.f55) (hs := []) Tryz.func55 c55 (by simp) fun hcl => ?_
  have e1 : decide ((v.l.length : Int) = 0) = decide (v.l.length = 0) := by rw [decide_eq_decide]; omega
  have e2 : decide ((v.names.length : Int) = 0) = decide (v.names.length = 0) := by rw [decide_eq_decide]; omega
  unfold bareV parted
  have hk : v.kind = 1 ∨ v.kind = 2 ∨ v.kind = 4 ∨ v.kind = 8 ∨ v.kind = 9 ∨ v.kind = 10 ∨ (v.kind ≠ 1 ∧ v.kind ≠ 2 ∧ v.kind ≠ 4 ∧ v.kind ≠ 8 ∧ v.kind ≠ 9 ∧ v.kind ≠ 10) := by omega
  rcases hk with hk | hk | hk | hk | hk | hk | ⟨k1, k2, k4, k8, k9, k10⟩
  all_goals
    first
    | simp only [ac55, valv_eq, e1, e2, hk, Int.reduceEq, decide_true, decide_false, Bool.not_true, Bool.not_false, Bool.and_true, Bool.true_and, Bool.and_false, Bool.false_and, Bool.or_true, Bool.true_or, Bool.or_false, Bool.false_or, awH, ↓awD, awP, Nat.reduceLeDiff, Nat.reduceEqDiff, Nat.reduceAdd, Int.reduceLT, Int.reduceLE, Int.reduceEq]
    | simp only [ac55, valv_eq, e1, e2, k1, k2, k4, k8, k9, k10, Int.reduceEq, decide_true, decide_false, Bool.not_true, Bool.not_false, Bool.and_true, Bool.true_and, Bool.and_false, Bool.false_and, Bool.or_true, Bool.true_or, Bool.or_false, Bool.false_or, awH, ↓awD, awP, Nat.reduceLeDiff, Nat.reduceEqDiff, Nat.reduceAdd, Int.reduceLT, Int.reduceLE, Int.reduceEq]
  all_goals repeat' (refine BrF.mk (fun hb => ?_) (fun hb => ?_) <;> (try rw [hb]) <;> simp only [aw21, aw21, awH, ↓awD, awP, Nat.reduceLeDiff, Nat.reduceEqDiff, Nat.reduceAdd, Int.reduceLT, Int.reduceLE, Int.reduceEq])
  all_goals (refine Fin.end hcl rfl (by first | rfl | exact (List.append_nil _).symm | (simp only [List.append_assoc]; rfl)) ⟨?_, rfl⟩; clear hcl; simp only [e1, decide_eq_true_eq, decide_eq_false_iff_not, List.length_eq_zero_iff] at *; first | (simp [*]; done) | (simp_all; done) | grind)

theorem bytesIndex_ev (l : List UInt8) (c : UInt8) (h : List AObj) : EvR E0 72 [.sl .unk (byA l), u8v c] h (i64 (idx (fun x => decide (x = c)) l 0)) := by
  refine ev_of (fn := Tryz.f72) (hs := []) Tryz.func72 c72 (by simp) fun hcl => ?_
  have h1 := fun h => indexByte_ev (E := E0) (f := 90) Tryz.func90 (by kernel_rfl) (by kernel_rfl) (by kernel_rfl) (by kernel_rfl) l c h
  simp only [ac72, awH, ↓awD, awP, Nat.reduceLeDiff, Nat.reduceEqDiff, Nat.reduceAdd, Int.reduceLT, Int.reduceLE, Int.reduceEq]
  repeat' ((first | refine EvF.ret (h1 _) ?_ | refine EvRF.ret (h1 _) ?_); simp only [aw21, aw21, awH, ↓awD, awP, Nat.reduceLeDiff, Nat.reduceEqDiff, Nat.reduceAdd, Int.reduceLT, Int.reduceLE, Int.reduceEq])
  all_goals (refine Fin.end hcl rfl (by first | rfl | exact (List.append_nil _).symm | (simp only [List.append_assoc]; rfl)) ⟨?_, rfl⟩; first | rfl | ((try simp only [dnat, decide_eq_true_eq, decide_eq_false_iff_not, List.length_eq_zero_iff, List.length_pos_iff] at *); first | (simp [*, idx]; done) | (simp [*, idx]; omega) | (clear hcl; simp [*, idx] <;> grind) | (simp [*, idx])))

theorem text_ev (s frm : ByteArray) (hs : s.size < 2 ^ 60) (hf : frm.size < 2 ^ 60) (h : List AObj) : EvR E0 58 [str s, str frm] h (boolv (textOk s frm)) := by
  refine ev_of (fn := Tryz.f58) (hs := []) Tryz.func58 c58 (by simp) fun hcl => ?_
  have hsz : s.size = s.data.toList.length := by simp
  have hfz : frm.size = frm.data.toList.length := by simp
  unfold textOk
  generalize hR : s.data.toList.all (chOk frm) = R
  simp only [ac58, awH, ↓awD, awP, Nat.reduceLeDiff, Nat.reduceEqDiff, Nat.reduceAdd, Int.reduceLT, Int.reduceLE, Int.reduceEq]
  refine LoopF.list s.data.toList (by omega) (γ := Unit) (fun i _ => ⟨[(0, str s), (1, str frm), (7, i64 s.size), (8, i64 i)], h⟩) (fun i _ => (s.data.toList.drop i).all (chOk frm) = R) () (by simpa using hR) (weak_of rfl (by simp [look])) ?_ ?_
  · rintro i a _ ha hv hi e1 w3
    rw [drop_get ha, List.all_cons] at hv
    rw [← hsz] at hi e1
    have hib := fun h => bytesIndex_ev frm.data.toList a h
    have d1 : decide ((128 : Int) ≤ (a.toNat : Int)) = !decide (a.toNat < 128) := by rw [Bool.eq_iff_iff]; simp; omega
    have d2 : decide (idx (fun x => decide (x = a)) frm.data.toList 0 < 0) = !(frm.data.toList.any fun x => decide (x = a)) := by
      rw [← idx_any (fun x => decide (x = a)) frm.data.toList 0, Bool.eq_iff_iff]; simp
    simp only [e1, w3, awH, ↓awD, awP, Nat.reduceLeDiff, Nat.reduceEqDiff, Nat.reduceAdd, Int.reduceLT, Int.reduceLE, Int.reduceEq]
    repeat' (first | ((first | refine Need.mk (by first | (constructor <;> (first | omega | (simp only [awO] at *; omega) | (simp; omega))) | (first | omega | (simp only [awO] at *; omega) | (simp; omega))) (Byte.at ha ?_) | refine Byte.at ha ?_); simp only [d1, w3, szl, awH, ↓awD, awP, Nat.reduceLeDiff, Nat.reduceEqDiff, Nat.reduceAdd, Int.reduceLT, Int.reduceLE, Int.reduceEq]) | (refine Need.mk (by first | decide | (first | omega | (simp only [awO] at *; omega) | (simp; omega)) | (constructor <;> (first | omega | (simp only [awO] at *; omega) | (simp; omega)))) ?_; simp only [w3, szl, awH, ↓awD, awP, Nat.reduceLeDiff, Nat.reduceEqDiff, Nat.reduceAdd, Int.reduceLT, Int.reduceLE, Int.reduceEq]) | ((first | refine EvF.ret (hib _) ?_ | refine EvRF.ret (hib _) ?_); simp only [d1, d2, w3, aw21, awH, ↓awD, awP, Nat.reduceLeDiff, Nat.reduceEqDiff, Nat.reduceAdd, Int.reduceLT, Int.reduceLE, Int.reduceEq]) | (refine BrF.mk (fun hb => ?_) (fun hb => ?_) <;> (try rw [hb]) <;> simp only [d1, d2, w3, aw21, awH, ↓awD, awP, Nat.reduceLeDiff, Nat.reduceEqDiff, Nat.reduceAdd, Int.reduceLT, Int.reduceLE, Int.reduceEq]))
    all_goals (simp only [chOk, *, Bool.not_true, Bool.not_false, Bool.true_and, Bool.false_and, Bool.and_true, Bool.and_false, Bool.or_true, Bool.true_or, Bool.false_or, Bool.or_false] at hv)
    all_goals first | exact ⟨(i + 1, ()), ⟨hi, hv⟩, by simp only; omega, weak_of (rfl) (by simp [look])⟩ | (subst hv; exact Fin.end hcl rfl (by first | rfl | exact (List.append_nil _).symm | (simp only [List.append_assoc]; rfl)) ⟨rfl, rfl⟩) | (exact Fin.end hcl rfl (by first | rfl | exact (List.append_nil _).symm | (simp only [List.append_assoc]; rfl)) ⟨by simp_all, rfl⟩)
  · rintro _ hv e1
    rw [drop_len] at hv
    simp only [List.all_nil] at hv
    subst hv
    have e2 : decide ((s.data.toList.length : Int) < s.size) = false := by rw [hsz]; simp
    simp only [e2, awH, ↓awD, awP, Nat.reduceLeDiff, Nat.reduceEqDiff, Nat.reduceAdd, Int.reduceLT, Int.reduceLE, Int.reduceEq]
    exact Fin.end hcl rfl (by first | rfl | exact (List.append_nil _).symm | (simp only [List.append_assoc]; rfl)) ⟨rfl, rfl⟩

theorem sized_ev (d : List Dsc) (n : Nat) (r : Dsc) (room : Int) (hr : d[n]? = some r) (k : Nat) (hl : r.set.length < 2 ^ 60) (h : List AObj) : EvR E0 59 [rowv d n room, i64 k] h (boolv (sizedOk r k)) := by
  refine ev_of (fn := Tryz.f59) (hs := []) Tryz.func59 c59 (by simp) fun hcl => ?_
  have h1 := fun h => own_ev d n r room hr h
  have h2 := fun h => has_ev r.set k hl h
  have d1 : decide ((k : Int) ≤ 1048576) = decide (k ≤ 1048576) := by rw [decide_eq_decide]; omega
  simp only [dscv_eq] at h1
  simp only [ac59, d1, awH, ↓awD, awP, Nat.reduceLeDiff, Nat.reduceEqDiff, Nat.reduceAdd, Int.reduceLT, Int.reduceLE, Int.reduceEq]
  repeat' (first | ((first | refine EvF.ret (h1 _) ?_ | refine EvRF.ret (h1 _) ?_); simp only [d1, aw21, awH, ↓awD, awP, Nat.reduceLeDiff, Nat.reduceEqDiff, Nat.reduceAdd, Int.reduceLT, Int.reduceLE, Int.reduceEq]) | ((first | refine EvF.ret (h2 _) ?_ | refine EvRF.ret (h2 _) ?_); simp only [d1, aw21, awH, ↓awD, awP, Nat.reduceLeDiff, Nat.reduceEqDiff, Nat.reduceAdd, Int.reduceLT, Int.reduceLE, Int.reduceEq]) | (refine BrF.mk (fun hb => ?_) (fun hb => ?_) <;> (try rw [hb]) <;> simp only [d1, aw21, awH, ↓awD, awP, Nat.reduceLeDiff, Nat.reduceEqDiff, Nat.reduceAdd, Int.reduceLT, Int.reduceLE, Int.reduceEq]))
  all_goals (refine Fin.end hcl rfl (by first | rfl | exact (List.append_nil _).symm | (simp only [List.append_assoc]; rfl)) ⟨?_, rfl⟩; simp [*, sizedOk])

def ac60 : ACode := (.seq (.region [oq 2 (.box (tq 0)), oq 3 (.box (tq 1)), oq 4 (.move (cb false))]) (.seq (.seq (.region [oq 9 (qf 3 3), oq 10 (ql 9), oq 11 (qn 10), oq 12 (qf 4 3), oq 13 (ql 12), oq 14 (qn 13), oq 15 (.bin .neq (tq 11) (tq 14))]) (.cond (tq 15) (.seq (.region [oq 4 (.move (cb false))]) .ret) .skip)) (.seq (.draw [oq 16 (qf 3 3), oq 17 (ql 16), oq 18 (qf 4 3), oq 19 (ql 18), oq 5 (qm 17), oq 6 (qm 19)]) (.seq (.seq (.region [oq 20 (qs 3 2), oq 21 (.call (.func 29) [((tq 20), false)]), oq 22 (qn 21), oq 23 (.move (ci 0))]) (.block 0 (.loop (.seq (.region [oq 24 (.bin .lss (tq 23) (tq 22))]) (.seq (.cond (tq 24) .skip (.exit 0)) (.seq (.block 1 (.seq (.region [oq 25 (qm 23), oq 26 (qx 4 21 23), oq 27 (qs 4 26), oq 8 (.alloc [zs, zi, zb, zn]), oq 7 (qm 25), oz (.store 4 (tq 8) (tq 27))]) (.block 2 (.seq (.draw [oq 29 (qm 5), oq 30 (qn 29), oq 31 (.bin .gtr (tq 30) (ci 0)), oq 32 (qm 31), og 33 (qm 5) 32 true, og 34 (.indexAddr 1 (tq 33) (ci 0)) 32 true, og 35 (ql 34) 32 true, og 36 (qf 0 8) 32 true, og 37 (ql 36) 32 true, og 38 (.bin .eql (tq 35) (tq 37)) 32 true, oq 39 (.pick (tq 32) (tq 38) (cb false)), oq 28 (qm 39)]) (.cond (tq 28) (.seq (.seq (.draw [oq 40 (qs 3 2), oq 41 (qf 1 8), oq 42 (ql 41), oq 43 (.call (.func 33) [((tq 40), false), ((tq 42), false)]), oq 44 (qm 6), oq 45 (.indexAddr 5 (tq 44) (ci 0)), oq 46 (qs 5 45), oq 47 (.call (.func 42) [((tq 43), false), ((tq 46), false)]), oq 48 (.un .not (tq 47))]) (.cond (tq 48) (.seq (.region [oq 4 (.move (cb false))]) .ret) .skip)) (.draw [oq 49 (qm 5), oq 50 (.slice 1 (tq 49) (some (ci 1)) none), oq 51 (qm 6), oq 52 (.slice 5 (tq 51) (some (ci 1)) none), oq 5 (qm 50), oq 6 (qm 52)])) (.seq (.region [oq 54 (qm 7), oq 55 (qs 3 2), oq 56 (.call (.func 34) [((tq 55), false)]), oq 57 (.field 8 none (tq 56)), oq 58 (qn 57), oq 59 (.bin .lss (tq 54) (tq 58)), oq 60 (qm 59), og 61 (qf 2 8) 60 true, og 62 (ql 61) 60 true, og 63 (.un .not (tq 62)) 60 true, oq 64 (.pick (tq 60) (tq 63) (cb false)), oq 65 (qm 64), og 66 (qf 3 8) 65 true, og 67 (ql 66) 65 true, og 68 (qn 67) 65 true, og 69 (.bin .eql (tq 68) (ci 0)) 65 true, oq 70 (.pick (tq 65) (tq 69) (cb false)), oq 53 (qm 70)]) (.cond (tq 53) (.seq (.region [oq 4 (.move (cb false))]) .ret) .skip))))))) (.region [oq 71 (.bin .add (tq 23) (ci 1)), oq 23 (qm 71)]))))))) (.seq (.region [oq 72 (qm 5), oq 73 (qn 72), oq 74 (.bin .eql (tq 73) (ci 0)), oq 4 (qm 74)]) .ret)))))
theorem c60 : cfn E0.P [] Tryz.f60 = some (ac60, [(.tmp 4)], 75) := by kernel_rfl

theorem take_map_len {α β : Type} (f : α → β) (l : List α) : List.take l.length (l.map f) = l.map f := List.take_of_length_le (by simp)
def must (np i : Nat) (f : Fld) : Bool := decide (i < np) && (!f.opt && decide (f.dfl.length = 0))
def seqW (B : Int → Val → Bool) (np : Nat) : Nat → List Fld → List ByteArray → List Val → Bool
  | _, [], ns, _ => decide (ns.length = 0)
  | i, f :: fs, [], l => !must np i f && seqW B np (i + 1) fs [] l
  | i, f :: fs, x :: xs, l => if decide (x = f.name) then (match l with | [] => true | y :: _ => B f.t y) && seqW B np (i + 1) fs xs l.tail else !must np i f && seqW B np (i + 1) fs (x :: xs) l
def seqF (B : Int → Val → Bool) (r : Dsc) (v : Val) : Bool := decide (v.names.length = v.l.length) && seqW B r.parts.length 0 r.fields v.names v.l

set_option maxHeartbeats 4000000 in
theorem seq_ev (d : List Dsc) (n : Nat) (r : Dsc) (room : Nat) (hroom : room < 40) (v : Val) (B : Int → Val → Bool) (hr : d[n]? = some r) (hm : BD (2 ^ 30) r) (hv : mxV v ≤ 2 ^ 48)
    (hB : ∀ f, f ∈ r.fields → ∀ x, x ∈ v.l → ∀ h, EvR E0 42 [rowv d f.t room, valv x] h (boolv (B f.t x))) (h : List AObj) :
    EvR E0 60 [rowv d n ((room + 1 : Nat) : Int), valv v] h (boolv (seqF B r v)) := by
  refine ev_of (fn := Tryz.f60) (hs := []) Tryz.func60 c60 (by simp) fun hcl => ?_
  have hV := mxV_le v
  have l1 := mxB_len v.names
  have l3 := mxVs_len v.l
  have hfl : r.parts.length + r.adds.length ≤ 2 ^ 40 := by have := hm.2.2.2.2.1; have := hm.2.2.2.2.2.1; omega
  have hf := fun h => fields_ev d n r ((room + 1 : Nat) : Int) hr hfl h
  have hfl2 : r.fields.length < 2 ^ 60 := by simp only [Dsc.fields, List.length_append]; omega
  have ho := fun h => own_ev d n r ((room + 1 : Nat) : Int) hr h
  have hbl := fun m h => below_ev d n ((room + 1 : Nat) : Int) m (by constructor <;> omega) h
  have hro : ((room + 1 : Nat) : Int) - 1 = room := by omega
  rw [hro] at hbl
  simp only [dscv_eq] at ho
  have d0 : decide ((v.names.length : Int) = (v.l.length : Int)) = decide (v.names.length = v.l.length) := by rw [decide_eq_decide]; omega
  unfold seqF
  generalize hR : seqW B r.parts.length 0 r.fields v.names v.l = R
  simp only [ac60, valv_eq, d0, awH, ↓awD, awP, Nat.reduceLeDiff, Nat.reduceEqDiff, Nat.reduceAdd, Int.reduceLT, Int.reduceLE, Int.reduceEq]
  repeat' (first | ((first | refine EvF.ret (hf _) ?_ | refine EvRF.ret (hf _) ?_); simp only [d0, aw21, awH, ↓awD, awP, Nat.reduceLeDiff, Nat.reduceEqDiff, Nat.reduceAdd, Int.reduceLT, Int.reduceLE, Int.reduceEq]) | (refine BrF.mk (fun hb => ?_) (fun hb => ?_) <;> (try rw [hb]) <;> simp only [d0, aw21, awH, ↓awD, awP, Nat.reduceLeDiff, Nat.reduceEqDiff, Nat.reduceAdd, Int.reduceLT, Int.reduceLE, Int.reduceEq]))
  rotate_left
  · (refine Fin.end hcl rfl (by first | rfl | exact (List.append_nil _).symm | (simp only [List.append_assoc]; rfl)) ⟨?_, rfl⟩; first | rfl | ((try simp only [dnat, decide_eq_true_eq, decide_eq_false_iff_not, List.length_eq_zero_iff, List.length_pos_iff] at *); first | (simp [*, seqF]; done) | (simp [*, seqF]; omega) | (clear hcl; simp [*, seqF] <;> grind) | (simp [*, seqF])))
  generalize hHd : h ++ [AObj.cells [dscl d, i64 n, i64 ((room + 1 : Nat) : Int)]] ++ [AObj.cells [i64 v.kind, i64 v.n, str v.s, strl v.names, vall v.l]] = H
  have hg0 : H[h.length]? = some (AObj.cells [dscl d, i64 n, i64 ((room + 1 : Nat) : Int)]) := by rw [← hHd]; exact geta _ _ _
  have hg1 := fun J => app_get hg0 J
  have hg2 := fun J (o : AObj) => app_get (hg1 J) [o]
  refine LoopF.list r.fields hfl2 (γ := List ByteArray × List Val × List AObj) (fun i g => ⟨[(2, .ref h.length 0), (5, strl g.1), (6, vall g.2.1), (21, fldl r.fields), (22, i64 r.fields.length), (23, i64 i)], H ++ g.2.2⟩)
    (fun i g => g.1.length = g.2.1.length ∧ g.1.length < 2 ^ 50 ∧ (∀ y, y ∈ g.2.1 → y ∈ v.l) ∧ seqW B r.parts.length i (r.fields.drop i) g.1 g.2.1 = R) (v.names, v.l, []) ?_ (weak_of (by simp) (by simp [look])) ?_ ?_
  · exact ⟨by simpa using hb, by simp only; omega, fun y hy => hy, by simpa using hR⟩
  · rintro i f ⟨ns, l, J⟩ ha ⟨hl1, hl2, hl3, hv⟩ hi e1 w3
    rw [drop_get ha] at hv
    have hga := map_get fldv r.fields i f ha
    simp only [e1, w3, hg1, hg2, getJ, setJ, awH, ↓awD, awP, Nat.reduceLeDiff, Nat.reduceEqDiff, Nat.reduceAdd, Int.reduceLT, Int.reduceLE, Int.reduceEq]
    ((try refine Need.mk (by first | (first | omega | (simp only [awO] at *; omega) | (simp; omega)) | (constructor <;> (first | omega | (simp only [awO] at *; omega) | (simp; omega)))) ?_); refine Elem.recs hga (by first | (rw [fldv_eq]; exact ⟨rfl, rfl⟩) | exact ⟨rfl, rfl⟩) ?_; simp only [fldv_eq, aw21, aw21, awH, ↓awD, awP, Nat.reduceLeDiff, Nat.reduceEqDiff, Nat.reduceAdd, Int.reduceLT, Int.reduceLE, Int.reduceEq])
    have d1 : decide ((i : Int) < (r.parts.length : Int)) = decide (i < r.parts.length) := by rw [decide_eq_decide]; omega
    have d2 : decide ((f.dfl.length : Int) = 0) = decide (f.dfl.length = 0) := by rw [decide_eq_decide]; omega
    have hfm := List.mem_of_getElem? ha
    cases ns with
    | nil =>
      have z1 : decide ((0 : Int) < ((([] : List ByteArray).length : Nat) : Int)) = false := rfl
      simp only [seqW, must] at hv
      simp only [z1, w3, d1, d2, hg1, hg2, getJ, setJ, awH, ↓awD, awP, Nat.reduceLeDiff, Nat.reduceEqDiff, Nat.reduceAdd, Int.reduceLT, Int.reduceLE, Int.reduceEq]
      repeat' (first | ((first | refine EvF.ret (ho _) ?_ | refine EvRF.ret (ho _) ?_); simp only [w3, d1, d2, hg1, hg2, getJ, setJ, aw21, awH, ↓awD, awP, Nat.reduceLeDiff, Nat.reduceEqDiff, Nat.reduceAdd, Int.reduceLT, Int.reduceLE, Int.reduceEq]) | (refine BrF.mk (fun hb => ?_) (fun hb => ?_) <;> (try rw [hb]) <;> simp only [w3, d1, d2, hg1, hg2, getJ, setJ, aw21, awH, ↓awD, awP, Nat.reduceLeDiff, Nat.reduceEqDiff, Nat.reduceAdd, Int.reduceLT, Int.reduceLE, Int.reduceEq]))
      all_goals (simp only [*, Bool.not_true, Bool.not_false, Bool.true_and, Bool.false_and, Bool.and_true, Bool.and_false, if_true, if_false, Bool.false_eq_true] at hv)
      · exact ⟨(i + 1, [], l, J ++ [_]), ⟨hi, by first | exact hl1 | simpa using hl1, by first | exact hl2 | (simp only [List.length_cons] at hl2 ⊢; omega), by first | exact hl3 | exact fun y hy => hl3 y (List.mem_cons_of_mem _ hy), hv⟩, by simp only; omega, weak_of (List.append_assoc ..).symm (by simp [look, take_map_len])⟩
      all_goals first | exact ⟨(i + 1, [], l, J ++ [_]), ⟨hi, by first | exact hl1 | simpa using hl1, by first | exact hl2 | (simp only [List.length_cons] at hl2 ⊢; omega), by first | exact hl3 | exact fun y hy => hl3 y (List.mem_cons_of_mem _ hy), hv⟩, by simp only; omega, weak_of (List.append_assoc ..).symm (by simp [look, take_map_len])⟩ | (subst hv; exact Fin.end hcl rfl (by rw [← hHd]; simp only [List.append_assoc]; rfl) ⟨rfl, rfl⟩)
    | cons x xs =>
      cases l with
      | nil => simp at hl1
      | cons y ys =>
        have z1 : decide ((0 : Int) < ((xs.length + 1 : Nat) : Int)) = true := by simp
        have hgx : (List.map str (x :: xs))[0]? = some (str x) := rfl
        have hgy : (List.map valv (y :: ys))[0]? = some (valv y) := rfl
        have hsx : ∀ e, e ∈ str x :: List.map str xs → e.sure = true ∧ e.cells.length = 1 := by
          intro e he
          obtain ⟨z, _, rfl⟩ := List.mem_map.1 (show e ∈ List.map str (x :: xs) from he)
          exact ⟨rfl, rfl⟩
        have hsy : ∀ e, e ∈ valv y :: List.map valv ys → e.sure = true ∧ e.cells.length = 5 := by
          intro e he
          obtain ⟨z, _, rfl⟩ := List.mem_map.1 (show e ∈ List.map valv (y :: ys) from he)
          rw [valv_eq]
          exact ⟨rfl, rfl⟩
        have hBy := hB f hfm y (hl3 y (List.mem_cons_self))
        simp only [valv_eq] at hBy
        simp only [seqW, must] at hv
        simp only [z1, w3, d1, d2, hg1, hg2, getJ, setJ, awH, ↓awD, awP, Nat.reduceLeDiff, Nat.reduceEqDiff, Nat.reduceAdd, Int.reduceLT, Int.reduceLE, Int.reduceEq]
        repeat' (first | (refine Need.mk ⟨by omega, by omega, Or.inr hsx⟩ ?_; simp only [z1, w3, d1, d2, hg1, hg2, getJ, setJ, awH, ↓awD, awP, Nat.reduceLeDiff, Nat.reduceEqDiff, Nat.reduceAdd, Int.reduceLT, Int.reduceLE, Int.reduceEq]) | (refine Need.mk ⟨by omega, by omega, Or.inr hsy⟩ ?_; simp only [z1, w3, d1, d2, hg1, hg2, getJ, setJ, awH, ↓awD, awP, Nat.reduceLeDiff, Nat.reduceEqDiff, Nat.reduceAdd, Int.reduceLT, Int.reduceLE, Int.reduceEq]) | ((try refine Need.mk (by first | (first | omega | (simp only [awO] at *; omega) | (simp; omega)) | (constructor <;> (first | omega | (simp only [awO] at *; omega) | (simp; omega)))) ?_); refine Elem.recs hgx (by first | (rw [aw21]; exact ⟨rfl, rfl⟩) | exact ⟨rfl, rfl⟩) ?_; simp only [aw21, z1, w3, d1, d2, hg1, hg2, getJ, setJ, aw21, awH, ↓awD, awP, Nat.reduceLeDiff, Nat.reduceEqDiff, Nat.reduceAdd, Int.reduceLT, Int.reduceLE, Int.reduceEq]) | ((try refine Need.mk (by first | (first | omega | (simp only [awO] at *; omega) | (simp; omega)) | (constructor <;> (first | omega | (simp only [awO] at *; omega) | (simp; omega)))) ?_); refine Elem.recs hgy (by first | (rw [valv_eq]; exact ⟨rfl, rfl⟩) | exact ⟨rfl, rfl⟩) ?_; simp only [valv_eq, z1, w3, d1, d2, hg1, hg2, getJ, setJ, aw21, awH, ↓awD, awP, Nat.reduceLeDiff, Nat.reduceEqDiff, Nat.reduceAdd, Int.reduceLT, Int.reduceLE, Int.reduceEq]) | ((first | refine EvF.ret (ho _) ?_ | refine EvRF.ret (ho _) ?_); simp only [z1, w3, d1, d2, hg1, hg2, getJ, setJ, aw21, awH, ↓awD, awP, Nat.reduceLeDiff, Nat.reduceEqDiff, Nat.reduceAdd, Int.reduceLT, Int.reduceLE, Int.reduceEq]) | ((first | refine EvF.ret (hbl _ _) ?_ | refine EvRF.ret (hbl _ _) ?_); simp only [z1, w3, d1, d2, hg1, hg2, getJ, setJ, aw21, awH, ↓awD, awP, Nat.reduceLeDiff, Nat.reduceEqDiff, Nat.reduceAdd, Int.reduceLT, Int.reduceLE, Int.reduceEq]) | ((first | refine EvF.ret (hBy _) ?_ | refine EvRF.ret (hBy _) ?_); simp only [z1, w3, d1, d2, hg1, hg2, getJ, setJ, aw21, awH, ↓awD, awP, Nat.reduceLeDiff, Nat.reduceEqDiff, Nat.reduceAdd, Int.reduceLT, Int.reduceLE, Int.reduceEq]) | (refine BrF.mk (fun hb => ?_) (fun hb => ?_) <;> (try rw [hb]) <;> simp only [z1, w3, d1, d2, hg1, hg2, getJ, setJ, aw21, awH, ↓awD, awP, Nat.reduceLeDiff, Nat.reduceEqDiff, Nat.reduceAdd, Int.reduceLT, Int.reduceLE, Int.reduceEq]))
        all_goals (simp only [*, Bool.not_true, Bool.not_false, Bool.true_and, Bool.false_and, Bool.and_true, Bool.and_false, if_true, if_false, Bool.false_eq_true] at hv)
        all_goals first | exact ⟨(i + 1, x :: xs, y :: ys, J ++ [_]), ⟨hi, by first | exact hl1 | simpa using hl1, by first | exact hl2 | (simp only [List.length_cons] at hl2 ⊢; omega), by first | exact hl3 | exact fun y hy => hl3 y (List.mem_cons_of_mem _ hy), hv⟩, by simp only; omega, weak_of (List.append_assoc ..).symm (by simp [look, take_map_len])⟩ | exact ⟨(i + 1, xs, ys, J ++ [_]), ⟨hi, by first | exact hl1 | simpa using hl1, by first | exact hl2 | (simp only [List.length_cons] at hl2 ⊢; omega), by first | exact hl3 | exact fun y hy => hl3 y (List.mem_cons_of_mem _ hy), hv⟩, by simp only; omega, weak_of (List.append_assoc ..).symm (by simp [look, take_map_len])⟩ | (subst hv; exact Fin.end hcl rfl (by rw [← hHd]; simp only [List.append_assoc]; rfl) ⟨rfl, rfl⟩) | trace_state
  · rintro ⟨ns, l, J⟩ ⟨hl1, hl2, hl3, hv⟩ e1
    rw [drop_len] at hv
    simp only [seqW] at hv
    have d1 : decide ((ns.length : Int) = 0) = decide (ns.length = 0) := by rw [decide_eq_decide]; omega
    simp only [e1, d1, awH, ↓awD, awP, Nat.reduceLeDiff, Nat.reduceEqDiff, Nat.reduceAdd, Int.reduceLT, Int.reduceLE, Int.reduceEq]
    subst hv
    exact Fin.end hcl rfl (by rw [← hHd]; simp only [List.append_assoc]; rfl) ⟨rfl, rfl⟩

def ac61 : ACode := (.seq (.region [oq 2 (.box (tq 0)), oq 3 (.box (tq 1)), oq 4 (.move (cb false))]) (.seq (.region [oq 7 (qs 3 2), oq 8 (.call (.func 29) [((tq 7), false)]), oq 5 (qm 8)]) (.seq (.region [oq 9 (qm 5), oq 10 (.mkFunc (.func 74) [] [(tq 3)]), oq 11 (.call (.func 73) [((tq 9), false), ((tq 10), false)]), oq 6 (qm 11)]) (.seq (.draw [oq 12 (qm 6), oq 13 (.bin .geq (tq 12) (ci 0)), oq 14 (qm 13), og 15 (qf 4 3) 14 true, og 16 (ql 15) 14 true, og 17 (qn 16) 14 true, og 18 (.bin .eql (tq 17) (ci 1)) 14 true, oq 19 (.pick (tq 14) (tq 18) (cb false)), oq 20 (qm 19), og 21 (qs 3 2) 20 true, og 22 (qm 5) 20 true, og 23 (qm 6) 20 true, og 24 (qx 4 22 23) 20 true, og 25 (qf 1 24) 20 true, og 26 (ql 25) 20 true, og 27 (.call (.func 33) [((tq 21), false), ((tq 26), false)]) 20 true, og 28 (qf 4 3) 20 true, og 29 (ql 28) 20 true, og 30 (.indexAddr 5 (tq 29) (ci 0)) 20 true, og 31 (qs 5 30) 20 true, og 32 (.call (.func 42) [((tq 27), false), ((tq 31), false)]) 20 true, oq 33 (.pick (tq 20) (tq 32) (cb false)), oq 4 (qm 33)]) .ret))))
theorem c61 : cfn E0.P [] Tryz.f61 = some (ac61, [(.tmp 4)], 34) := by kernel_rfl
def ac74 : ACode := (.seq (.region [oq 2 (.box (tq 0)), oq 3 (.move (cb false))]) (.seq (.region [oq 4 (qf 0 2), oq 5 (ql 4), oq 6 (qf 2 1), oq 7 (ql 6), oq 8 (.bin .eql (tq 5) (tq 7)), oq 3 (qm 8)]) .ret))
theorem c74 : cfn E0.P [] Tryz.f74 = some (ac74, [(.tmp 3)], 9) := by kernel_rfl

theorem idx_find {α : Type} (p : α → Bool) : ∀ (l : List α) (i : Nat), (l.find? p = none ∧ idx p l i = -1) ∨ ∃ k a, l[k]? = some a ∧ l.find? p = some a ∧ idx p l i = ((i + k : Nat) : Int)
  | [], i => .inl ⟨rfl, rfl⟩
  | a :: l, i => by
    cases hp : p a
    · rcases idx_find p l (i + 1) with ⟨h1, h2⟩ | ⟨k, b, h1, h2, h3⟩
      · exact .inl ⟨by simp [hp, h1], by simp only [idx, hp, if_false, Bool.false_eq_true, h2]⟩
      · exact .inr ⟨k + 1, b, by simpa using h1, by simp [hp, h2], by simp only [idx, hp, if_false, Bool.false_eq_true, h3]; omega⟩
    · exact .inr ⟨0, a, rfl, by simp [hp], by simp [idx, hp]⟩

def oneF (B : Int → Val → Bool) (t : Int) (l : List Val) : Bool := match l with | [] => false | x :: _ => B t x
def choF (B : Int → Val → Bool) (r : Dsc) (v : Val) : Bool := match r.fields.find? (fun f => decide (f.name = v.s)) with | none => false | some f => decide (v.l.length = 1) && oneF B f.t v.l

theorem choice_ev (d : List Dsc) (n : Nat) (r : Dsc) (room : Nat) (hroom : room < 40) (v : Val) (B : Int → Val → Bool) (hr : d[n]? = some r) (hm : BD (2 ^ 30) r) (hv : mxV v ≤ 2 ^ 48)
    (hB : ∀ f, f ∈ r.fields → ∀ x, x ∈ v.l → ∀ h, EvR E0 42 [rowv d f.t room, valv x] h (boolv (B f.t x))) (h : List AObj) :
    EvR E0 61 [rowv d n ((room + 1 : Nat) : Int), valv v] h (boolv (choF B r v)) := by
  refine ev_of (fn := Tryz.f61) (hs := []) Tryz.func61 c61 (by simp) fun hcl => ?_
  have hV := mxV_le v
  have l3 := mxVs_len v.l
  have hfl : r.parts.length + r.adds.length ≤ 2 ^ 40 := by have := hm.2.2.2.2.1; have := hm.2.2.2.2.2.1; omega
  have hf := fun h => fields_ev d n r ((room + 1 : Nat) : Int) hr hfl h
  have hfl2 : r.fields.length < 2 ^ 60 := by simp only [Dsc.fields, List.length_append]; omega
  have hbl := fun m h => below_ev d n ((room + 1 : Nat) : Int) m (by constructor <;> omega) h
  have hro : ((room + 1 : Nat) : Int) - 1 = room := by omega
  rw [hro] at hbl
  have hc := fun (h' : List AObj) (id : Nat) (hid : h'[id]? = some (AObj.cells [i64 v.kind, i64 v.n, str v.s, strl v.names, vall v.l])) => fld_idx r.fields 74 [.ref id 0] (fun f => decide (f.name = v.s)) h' hfl2 fun x hx => by
    show EvR E0 74 [fldv x, .ref id 0] h' _
    refine ev_of (fn := Tryz.f74) (hs := []) Tryz.func74 c74 (by simp) fun hcl => ?_
    have hid2 := fun (l : List AObj) => app_get hid l
    simp only [ac74, fldv_eq, hid2, awH, ↓awD, awP, Nat.reduceLeDiff, Nat.reduceEqDiff, Nat.reduceAdd, Int.reduceLT, Int.reduceLE, Int.reduceEq]
    repeat' (refine BrF.mk (fun hb => ?_) (fun hb => ?_) <;> (try rw [hb]) <;> simp only [hid2, aw21, awH, ↓awD, awP, Nat.reduceLeDiff, Nat.reduceEqDiff, Nat.reduceAdd, Int.reduceLT, Int.reduceLE, Int.reduceEq])
    all_goals (refine Fin.end hcl rfl (by first | rfl | exact (List.append_nil _).symm | (simp only [List.append_assoc]; rfl)) ⟨?_, rfl⟩; first | rfl | ((try simp only [dnat, decide_eq_true_eq, decide_eq_false_iff_not, List.length_eq_zero_iff, List.length_pos_iff] at *); first | (simp [*, hid2]; done) | (simp [*, hid2]; omega) | (clear hcl; simp [*, hid2] <;> grind) | (simp [*, hid2])))
  simp only [ac61, valv_eq, awH, ↓awD, awP, Nat.reduceLeDiff, Nat.reduceEqDiff, Nat.reduceAdd, Int.reduceLT, Int.reduceLE, Int.reduceEq]
  repeat' ((first | refine EvF.ret (hf _) ?_ | refine EvRF.ret (hf _) ?_); simp only [aw21, aw21, awH, ↓awD, awP, Nat.reduceLeDiff, Nat.reduceEqDiff, Nat.reduceAdd, Int.reduceLT, Int.reduceLE, Int.reduceEq])
  generalize hHd : h ++ [AObj.cells [dscl d, i64 n, i64 ((room + 1 : Nat) : Int)]] ++ [AObj.cells [i64 v.kind, i64 v.n, str v.s, strl v.names, vall v.l]] = H
  have hg0 : H[h.length]? = some (AObj.cells [dscl d, i64 n, i64 ((room + 1 : Nat) : Int)]) := by rw [← hHd]; exact geta _ _ _
  have hg1 : H[(h ++ [AObj.cells [dscl d, i64 n, i64 ((room + 1 : Nat) : Int)]]).length]? = some (AObj.cells [i64 v.kind, i64 v.n, str v.s, strl v.names, vall v.l]) := by rw [← hHd]; simp
  repeat' ((first | refine EvF.ret (hc _ _ hg1) ?_ | refine EvRF.ret (hc _ _ hg1) ?_); simp only [hg0, hg1, aw21, awH, ↓awD, awP, Nat.reduceLeDiff, Nat.reduceEqDiff, Nat.reduceAdd, Int.reduceLT, Int.reduceLE, Int.reduceEq])
  have d1 : decide ((v.l.length : Int) = 1) = decide (v.l.length = 1) := by rw [decide_eq_decide]; omega
  have z0 : decide ((0 : Int) ≤ -1) = false := rfl
  rcases idx_find (fun f : Fld => decide (f.name = v.s)) r.fields 0 with ⟨e1, e2⟩ | ⟨k, f, e0, e1, e2⟩
  · simp only [choF, e1, e2, z0, hg0, hg1, awH, ↓awD, awP, Nat.reduceLeDiff, Nat.reduceEqDiff, Nat.reduceAdd, Int.reduceLT, Int.reduceLE, Int.reduceEq]
    exact Fin.end hcl rfl (by rw [← hHd]; simp only [List.append_assoc]; rfl) ⟨rfl, rfl⟩
  · have z1 : decide ((0 : Int) ≤ ((0 + k : Nat) : Int)) = true := by simp
    rw [Nat.zero_add] at e2 z1
    have hga := map_get fldv r.fields k f e0
    have hk := lt_len e0
    have hfm := List.mem_of_getElem? e0
    cases hvl : v.l with
    | nil =>
      rw [hvl] at hg1
      simp only [choF, e1, e2, z1, hg0, hg1, hvl, List.length_nil, awH, ↓awD, awP, Nat.reduceLeDiff, Nat.reduceEqDiff, Nat.reduceAdd, Int.reduceLT, Int.reduceLE, Int.reduceEq]
      exact Fin.end hcl rfl (by rw [← hHd]; simp only [List.append_assoc]; rfl) ⟨rfl, rfl⟩
    | cons y ys =>
      have hgy : (List.map valv (y :: ys))[0]? = some (valv y) := rfl
      have hBy := hB f hfm y (by rw [hvl]; exact List.mem_cons_self)
      simp only [valv_eq] at hBy
      rw [hvl] at hg1 d1
      have d2 : decide (((ys.length + 1 : Nat) : Int) = 1) = decide (ys.length = 0) := by rw [decide_eq_decide]; omega
      have d3 : decide (ys.length + 1 = 1) = decide (ys.length = 0) := by rw [decide_eq_decide]; omega
      simp only [choF, oneF, e1, e2, z1, d1, d2, d3, hg0, hg1, hvl, List.length_cons, awH, ↓awD, awP, Nat.reduceLeDiff, Nat.reduceEqDiff, Nat.reduceAdd, Int.reduceLT, Int.reduceLE, Int.reduceEq]
      repeat' (first | ((try refine Need.mk (by first | (first | omega | (simp only [awO] at *; omega) | (simp; omega)) | (constructor <;> (first | omega | (simp only [awO] at *; omega) | (simp; omega)))) ?_); refine Elem.recs hgy (by first | (rw [valv_eq]; exact ⟨rfl, rfl⟩) | exact ⟨rfl, rfl⟩) ?_; simp only [valv_eq, hg0, hg1, e2, d1, d2, d3, z1, aw21, awH, ↓awD, awP, Nat.reduceLeDiff, Nat.reduceEqDiff, Nat.reduceAdd, Int.reduceLT, Int.reduceLE, Int.reduceEq]) | ((try refine Need.mk (by first | (first | omega | (simp only [awO] at *; omega) | (simp; omega)) | (constructor <;> (first | omega | (simp only [awO] at *; omega) | (simp; omega)))) ?_); refine Elem.recs hga (by first | (rw [fldv_eq]; exact ⟨rfl, rfl⟩) | exact ⟨rfl, rfl⟩) ?_; simp only [fldv_eq, hg0, hg1, e2, d1, d2, d3, z1, aw21, awH, ↓awD, awP, Nat.reduceLeDiff, Nat.reduceEqDiff, Nat.reduceAdd, Int.reduceLT, Int.reduceLE, Int.reduceEq]) | ((first | refine EvF.ret (hbl _ _) ?_ | refine EvRF.ret (hbl _ _) ?_); simp only [hg0, hg1, e2, d1, d2, d3, z1, aw21, awH, ↓awD, awP, Nat.reduceLeDiff, Nat.reduceEqDiff, Nat.reduceAdd, Int.reduceLT, Int.reduceLE, Int.reduceEq]) | ((first | refine EvF.ret (hBy _) ?_ | refine EvRF.ret (hBy _) ?_); simp only [hg0, hg1, e2, d1, d2, d3, z1, aw21, awH, ↓awD, awP, Nat.reduceLeDiff, Nat.reduceEqDiff, Nat.reduceAdd, Int.reduceLT, Int.reduceLE, Int.reduceEq]) | (refine BrF.mk (fun hb => ?_) (fun hb => ?_) <;> (try rw [hb]) <;> simp only [hg0, hg1, e2, d1, d2, d3, z1, aw21, awH, ↓awD, awP, Nat.reduceLeDiff, Nat.reduceEqDiff, Nat.reduceAdd, Int.reduceLT, Int.reduceLE, Int.reduceEq]))
      all_goals exact Fin.end hcl rfl (by rw [← hHd]; simp only [List.append_assoc]; rfl) ⟨by simp only [e1, hvl, d3, List.length_cons, Bool.true_and, Bool.false_and, hb], rfl⟩

def ac26 : ACode := (.seq (.region [oq 2 (.box (tq 0)), oq 3 (.box (tq 1)), oq 4 (.move (cb false))]) (.seq (.region [oq 5 (qs 3 2), oq 6 (qs 5 3), oq 7 (.call (.func 42) [((tq 5), false), ((tq 6), false)]), oq 8 (.un .not (tq 7)), oq 4 (qm 8)]) .ret))
theorem c26 : cfn E0.P [] Tryz.f26 = some (ac26, [(.tmp 4)], 9) := by kernel_rfl
def ac42 : ACode := (.seq (.region [oq 2 (.box (tq 0)), oq 3 (.box (tq 1)), oq 4 (.move (cb false))]) (.seq (.region [oq 7 (qs 3 2), oq 8 (.call (.func 34) [((tq 7), false)]), oq 5 (.alloc [zi, zb, zn, zi, zi, zs, zn, zn, zn, zn, zn, zi]), oz (.store 12 (tq 5) (tq 8))]) (.seq (.seq (.region [oq 9 (qf 2 2), oq 10 (ql 9), oq 11 (.bin .eql (tq 10) (ci 0)), oq 12 (qm 11), og 13 (qf 0 5) 12 true, og 14 (ql 13) 12 true, og 15 (.call (.func 40) [((tq 14), false)]) 12 true, oq 16 (.pick (tq 12) (tq 15) (cb false)), oq 17 (qm 16), og 18 (qf 0 3) 17 false, og 19 (ql 18) 17 false, og 20 (qf 0 5) 17 false, og 21 (ql 20) 17 false, og 22 (.bin .neq (tq 19) (tq 21)) 17 false, oq 23 (.pick (tq 17) (cb true) (tq 22)), oq 24 (qm 23), og 25 (qs 5 3) 24 false, og 26 (.call (.func 55) [((tq 25), false)]) 24 false, og 27 (.un .not (tq 26)) 24 false, oq 28 (.pick (tq 24) (cb true) (tq 27))]) (.cond (tq 28) (.seq (.region [oq 4 (.move (cb false))]) .ret) .skip)) (.seq (.seq (.region [oq 29 (qf 0 5), oq 30 (ql 29)]) (.block 0 (.seq (.region [oq 32 (.bin .eql (tq 30) (ci 1)), oq 31 (qm 32)]) (.cond (tq 31) (.seq (.region [oq 33 (qf 1 3), oq 34 (ql 33), oq 35 (.bin .shr (tq 34) (.const (.int .u64 1))), oq 36 (.bin .eql (tq 35) (ci 0)), oq 4 (qm 36)]) .ret) (.seq (.region [oq 38 (.bin .eql (tq 30) (ci 2)), oq 37 (qm 38)]) (.cond (tq 37) (.seq (.region [oq 39 (qf 1 5), oq 40 (ql 39), oq 41 (qm 40), og 42 (qf 2 5) 41 false, og 43 (ql 42) 41 false, og 44 (qf 1 3) 41 false, og 45 (ql 44) 41 false, og 46 (.call (.func 56) [((tq 43), false), ((tq 45), false)]) 41 false, oq 47 (.pick (tq 41) (cb true) (tq 46)), oq 4 (qm 47)]) .ret) (.seq (.region [oq 49 (.bin .eql (tq 30) (ci 3)), oq 48 (qm 49)]) (.cond (tq 48) (.seq (.region [oq 50 (qf 6 5), oq 51 (ql 50), oq 52 (qf 2 3), oq 53 (ql 52), oq 54 (.call (.func 57) [((tq 51), false), ((tq 53), false)]), oq 55 (qm 54), og 56 (qf 7 5) 55 false, og 57 (ql 56) 55 false, og 58 (qf 2 3) 55 false, og 59 (ql 58) 55 false, og 60 (.call (.func 57) [((tq 57), false), ((tq 59), false)]) 55 false, oq 61 (.pick (tq 55) (cb true) (tq 60)), oq 4 (qm 61)]) .ret) (.seq (.region [oq 63 (.bin .eql (tq 30) (ci 5)), oq 62 (qm 63)]) (.cond (tq 62) (.seq (.region [oq 64 (qf 2 3), oq 65 (ql 64), oq 66 (.call (.func 58) [((tq 65), false), ((.const (.string (⟨#[48, 49]⟩ : ByteArray))), false)]), oq 67 (qm 66), og 68 (qs 3 2) 67 true, og 69 (qf 2 3) 67 true, og 70 (ql 69) 67 true, og 71 (.len true (tq 70)) 67 true, og 72 (.call (.func 59) [((tq 68), false), ((tq 71), false)]) 67 true, oq 73 (.pick (tq 67) (tq 72) (cb false)), oq 4 (qm 73)]) .ret) (.seq (.region [oq 75 (.bin .eql (tq 30) (ci 6)), oq 74 (qm 75)]) (.cond (tq 74) (.seq (.region [oq 76 (qs 3 2), oq 77 (qf 2 3), oq 78 (ql 77), oq 79 (.len true (tq 78)), oq 80 (.call (.func 59) [((tq 76), false), ((tq 79), false)]), oq 4 (qm 80)]) .ret) (.seq (.region [oq 82 (.bin .eql (tq 30) (ci 7)), oq 81 (qm 82)]) (.cond (tq 81) (.seq (.region [oq 83 (qf 2 3), oq 84 (ql 83), oq 85 (qf 5 5), oq 86 (ql 85), oq 87 (.call (.func 58) [((tq 84), false), ((tq 86), false)]), oq 88 (qm 87), og 89 (qs 3 2) 88 true, og 90 (qf 2 3) 88 true, og 91 (ql 90) 88 true, og 92 (.len true (tq 91)) 88 true, og 93 (.call (.func 59) [((tq 89), false), ((tq 92), false)]) 88 true, oq 94 (.pick (tq 88) (tq 93) (cb false)), oq 4 (qm 94)]) .ret) (.seq (.region [oq 96 (.bin .eql (tq 30) (ci 8)), oq 95 (qm 96)]) (.cond (tq 95) (.seq (.region [oq 97 (qs 3 2), oq 98 (qs 5 3), oq 99 (.call (.func 60) [((tq 97), false), ((tq 98), false)]), oq 4 (qm 99)]) .ret) (.seq (.region [oq 101 (.bin .eql (tq 30) (ci 10)), oq 100 (qm 101)]) (.cond (tq 100) (.seq (.region [oq 102 (qs 3 2), oq 103 (qs 5 3), oq 104 (.call (.func 61) [((tq 102), false), ((tq 103), false)]), oq 4 (qm 104)]) .ret) (.seq (.region [oq 106 (.bin .eql (tq 30) (ci 9)), oq 105 (qm 106)]) (.cond (tq 105) (.seq (.region [oq 107 (qs 3 2), oq 108 (qf 11 5), oq 109 (ql 108), oq 110 (.call (.func 33) [((tq 107), false), ((tq 109), false)]), oq 111 (.mkFunc (.func 26) [(tq 110)] []), oq 6 (qm 111)]) (.seq (.region [oq 112 (qs 3 2), oq 113 (qf 4 3), oq 114 (ql 113), oq 115 (qn 114), oq 116 (.call (.func 59) [((tq 112), false), ((tq 115), false)]), oq 117 (qm 116), og 118 (qf 4 3) 117 true, og 119 (ql 118) 117 true, og 120 (qm 6) 117 true, og 121 (.call (.func 30) [((tq 119), false), ((tq 120), false)]) 117 true, og 122 (.un .not (tq 121)) 117 true, oq 123 (.pick (tq 117) (tq 122) (cb false)), oq 4 (qm 123)]) .ret)) .skip)))))))))))))))))))) (.seq (.region [oq 4 (.move (cb true))]) .ret)))))
theorem c42 : cfn E0.P [] Tryz.f42 = some (ac42, [(.tmp 4)], 124) := by kernel_rfl

def kindF (B : Int → Val → Bool) (r : Dsc) (v : Val) : Bool :=
  bif decide (r.kind = 1) then decide (v.n = 0) || decide (v.n = 1)
  else bif decide (r.kind = 2) then r.ext || inSet r.set v.n
  else bif decide (r.kind = 3) then (r.names.any fun x => decide (v.s = x)) || (r.more.any fun x => decide (v.s = x))
  else bif decide (r.kind = 5) then textOk v.s ⟨#[48, 49]⟩ && sizedOk r v.s.size
  else bif decide (r.kind = 6) then sizedOk r v.s.size
  else bif decide (r.kind = 7) then textOk v.s r.frm && sizedOk r v.s.size
  else bif decide (r.kind = 8) then seqF B r v
  else bif decide (r.kind = 10) then choF B r v
  else bif decide (r.kind = 9) then sizedOk r v.l.length && !(v.l.any fun x => !B r.elem x)
  else true
def hasF (B : Int → Val → Bool) (z : Bool) (r : Dsc) (v : Val) : Bool :=
  !(z && parted r.kind) && decide (v.kind = r.kind) && bareV v && kindF B r v

theorem shr1 (n : Int) : decide (n.fdiv (2 ^ (min (1 : Int).toNat IntKind.i64.bits)) = 0) = (decide (n = 0) || decide (n = 1)) := by
  have : (2 : Int) ^ (min (1 : Int).toNat IntKind.i64.bits) = 2 := by decide
  rw [this, Int.fdiv_eq_ediv_of_nonneg _ (by omega), Bool.eq_iff_iff]
  simp
  omega

theorem not_any (l : List Val) (f : FuncId) (first : List AV) (p : Val → Bool) (h : List AObj) (hl : l.length < 2 ^ 60) (hp : ∀ s, s ∈ l → EvR E0 f (first.map AV.strip ++ [valv s]) h (boolv (p s))) :
    EvR E0 47 [.sl .unk (l.map valv), .fn (.func f) first []] h (i64 (idx p l 0)) := by
  refine ev_of (fn := Tryz.f47) (hs := []) Tryz.func47 c47 (by simp) fun hcl => ?_
  generalize hR : idx p l 0 = R
  simp only [ac47, awH, ↓awD, awP, Nat.reduceLeDiff, Nat.reduceEqDiff, Nat.reduceAdd, Int.reduceLT, Int.reduceLE, Int.reduceEq]
  refine LoopF.list l hl (γ := Unit) (fun i _ => ⟨[(0, .sl .unk (l.map valv)), (1, .fn (.func f) first []), (6, .sl .unk (l.map valv)), (7, i64 l.length), (8, i64 i)], h⟩) (fun i _ => idx p (l.drop i) i = R) () (by simpa using hR) (weak_of rfl (by simp [look])) ?_ ?_
  · rintro i a _ ha hv hi e1 w3
    rw [drop_get ha] at hv
    unfold idx at hv
    have hga := map_get valv l i a ha
    have hpa := hp a (List.mem_of_getElem? ha)
    simp only [valv_eq] at hpa
    simp only [e1, w3, awH, ↓awD, awP, Nat.reduceLeDiff, Nat.reduceEqDiff, Nat.reduceAdd, Int.reduceLT, Int.reduceLE, Int.reduceEq]
    repeat' (first | ((try refine Need.mk (by first | (first | omega | (simp only [awO] at *; omega) | (simp; omega)) | (constructor <;> (first | omega | (simp only [awO] at *; omega) | (simp; omega)))) ?_); refine Elem.recs hga (by first | (rw [valv_eq]; exact ⟨rfl, rfl⟩) | exact ⟨rfl, rfl⟩) ?_; simp only [valv_eq, w3, aw21, awH, ↓awD, awP, Nat.reduceLeDiff, Nat.reduceEqDiff, Nat.reduceAdd, Int.reduceLT, Int.reduceLE, Int.reduceEq]) | ((first | refine EvF.ret ((by simpa only [List.append_nil] using hpa)) ?_ | refine EvRF.ret ((by simpa only [List.append_nil] using hpa)) ?_); simp only [w3, aw21, awH, ↓awD, awP, Nat.reduceLeDiff, Nat.reduceEqDiff, Nat.reduceAdd, Int.reduceLT, Int.reduceLE, Int.reduceEq]) | (refine BrF.mk (fun hb => ?_) (fun hb => ?_) <;> (try rw [hb]) <;> simp only [w3, aw21, awH, ↓awD, awP, Nat.reduceLeDiff, Nat.reduceEqDiff, Nat.reduceAdd, Int.reduceLT, Int.reduceLE, Int.reduceEq]))
    all_goals (simp only [*, if_true, if_false, Bool.false_eq_true] at hv)
    · subst hv; exact Fin.end hcl rfl (by first | rfl | exact (List.append_nil _).symm | (simp only [List.append_assoc]; rfl)) ⟨rfl, rfl⟩
    · exact ⟨(i + 1, ()), ⟨hi, hv⟩, by simp only; omega, weak_of (rfl) (by simp [look])⟩
  · rintro _ hv e1
    rw [drop_len] at hv
    unfold idx at hv
    subst hv
    simp only [e1, awH, ↓awD, awP, Nat.reduceLeDiff, Nat.reduceEqDiff, Nat.reduceAdd, Int.reduceLT, Int.reduceLE, Int.reduceEq]
    exact Fin.end hcl rfl (by first | rfl | exact (List.append_nil _).symm | (simp only [List.append_assoc]; rfl)) ⟨rfl, rfl⟩
theorem has_any (l : List Val) (f : FuncId) (first : List AV) (p : Val → Bool) (h : List AObj) (hl : l.length < 2 ^ 60) (hp : ∀ s, s ∈ l → EvR E0 f (first.map AV.strip ++ [valv s]) h (boolv (p s))) :
    EvR E0 30 [.sl .unk (l.map valv), .fn (.func f) first []] h (boolv (l.any p)) := by
  refine ev_of (fn := Tryz.f30) (hs := []) Tryz.func30 c30 (by simp) fun hcl => ?_
  simp only [ac30, ↓awD, awP, Nat.reduceLeDiff, Nat.reduceEqDiff, Nat.reduceAdd, Int.reduceLT, Int.reduceLE, Int.reduceEq]
  refine EvF.ret (not_any l f first p h hl hp) ?_
  simp only [idx_any, ↓awD, awP, Nat.reduceLeDiff, Nat.reduceEqDiff, Nat.reduceAdd, Int.reduceLT, Int.reduceLE, Int.reduceEq]
  exact Fin.same0 hcl rfl ⟨rfl, rfl⟩
theorem hasNot_of (d : List Dsc) (n : Int) (room : Int) (v : Val) (b : Bool) (hp : ∀ h, EvR E0 42 [rowv d n room, valv v] h (boolv b)) (h : List AObj) : EvR E0 26 [rowv d n room, valv v] h (boolv (!b)) := by
  refine ev_of (fn := Tryz.f26) (hs := []) Tryz.func26 c26 (by simp) fun hcl => ?_
  simp only [valv_eq] at hp
  simp only [ac26, valv_eq, awH, ↓awD, awP, Nat.reduceLeDiff, Nat.reduceEqDiff, Nat.reduceAdd, Int.reduceLT, Int.reduceLE, Int.reduceEq]
  repeat' ((first | refine EvF.ret (hp _) ?_ | refine EvRF.ret (hp _) ?_); simp only [aw21, aw21, awH, ↓awD, awP, Nat.reduceLeDiff, Nat.reduceEqDiff, Nat.reduceAdd, Int.reduceLT, Int.reduceLE, Int.reduceEq])
  all_goals (refine Fin.end hcl rfl (by first | rfl | exact (List.append_nil _).symm | (simp only [List.append_assoc]; rfl)) ⟨?_, rfl⟩; first | rfl | ((try simp only [dnat, decide_eq_true_eq, decide_eq_false_iff_not, List.length_eq_zero_iff, List.length_pos_iff] at *); first | (simp [*, rowv]; done) | (simp [*, rowv]; omega) | (clear hcl; simp [*, rowv] <;> grind) | (simp [*, rowv])))

set_option maxHeartbeats 8000000 in
theorem has_step (d : List Dsc) (n : Nat) (r : Dsc) (room : Nat) (hroom : room ≤ 40) (v : Val) (B : Int → Val → Bool) (hr : d[n]? = some r) (hm : BD (2 ^ 30) r) (hv : mxV v ≤ 2 ^ 48)
    (hB : ∀ k, room = k + 1 → ∀ t x, ((∃ f, f ∈ r.fields ∧ f.t = t) ∨ t = r.elem) → x ∈ v.l → ∀ h, EvR E0 42 [rowv d t k, valv x] h (boolv (B t x))) (h : List AObj) :
    EvR E0 42 [rowv d n room, valv v] h (boolv (hasF B (decide (room = 0)) r v)) := by
  refine ev_of (fn := Tryz.f42) (hs := []) Tryz.func42 c42 (by simp) fun hcl => ?_
  have hV := mxV_le v
  have l3 := mxVs_len v.l
  have l4 := hm.1
  have l5 := hm.2.1
  have l6 := hm.2.2.1
  have l7 := hm.2.2.2.1
  have l8 := mxB_len r.names
  have l9 := mxB_len r.more
  have ho := fun h => own_ev d n r (room : Int) hr h
  have hpt := fun h => parted_ev r.kind h
  have hba := fun h => bare_ev v h
  have hsp := fun h => has_ev r.set v.n (by omega) h
  have hc1 := fun h => strs_has r.names v.s h (by omega)
  have hc2 := fun h => strs_has r.more v.s h (by omega)
  have ht1 := fun h => text_ev v.s ⟨#[48, 49]⟩ (by omega) (by decide) h
  have ht2 := fun h => text_ev v.s r.frm (by omega) (by omega) h
  have hz1 := fun h => sized_ev d n r (room : Int) hr v.s.size (by omega) h
  have hz2 := fun h => sized_ev d n r (room : Int) hr v.l.length (by omega) h
  have d0 : decide ((room : Int) = 0) = decide (room = 0) := by rw [decide_eq_decide]; omega
  simp only [valv_eq] at hba
  simp only [dscv_eq] at ho
  simp only [ac42, valv_eq, d0, awH, ↓awD, awP, Nat.reduceLeDiff, Nat.reduceEqDiff, Nat.reduceAdd, Int.reduceLT, Int.reduceLE, Int.reduceEq]
  repeat' ((first | refine EvF.ret (ho _) ?_ | refine EvRF.ret (ho _) ?_); simp only [d0, aw21, awH, ↓awD, awP, Nat.reduceLeDiff, Nat.reduceEqDiff, Nat.reduceAdd, Int.reduceLT, Int.reduceLE, Int.reduceEq])
  generalize hHd : h ++ [AObj.cells [dscl d, i64 n, i64 room]] ++ [AObj.cells [i64 v.kind, i64 v.n, str v.s, strl v.names, vall v.l]] ++ [AObj.cells [i64 r.kind, boolv r.ext, rgl r.set, i64 r.lo, i64 r.hi, str r.frm, strl r.names, strl r.more, fldl r.parts, fldl r.adds, intl r.order, i64 r.elem]] = H
  have g0 : H[h.length]? = some (AObj.cells [dscl d, i64 n, i64 room]) := by rw [← hHd]; exact app_get (geta _ _ _) _
  have g1 : H[(h ++ [AObj.cells [dscl d, i64 n, i64 room]]).length]? = some (AObj.cells [i64 v.kind, i64 v.n, str v.s, strl v.names, vall v.l]) := by rw [← hHd]; exact geta _ _ _
  have g2 : H[(h ++ [AObj.cells [dscl d, i64 n, i64 room]] ++ [AObj.cells [i64 v.kind, i64 v.n, str v.s, strl v.names, vall v.l]]).length]? = some (AObj.cells [i64 r.kind, boolv r.ext, rgl r.set, i64 r.lo, i64 r.hi, str r.frm, strl r.names, strl r.more, fldl r.parts, fldl r.adds, intl r.order, i64 r.elem]) := by rw [← hHd]; simp
  generalize (h ++ [AObj.cells [dscl d, i64 n, i64 room]] ++ [AObj.cells [i64 v.kind, i64 v.n, str v.s, strl v.names, vall v.l]]).length = i2 at g2 ⊢
  generalize (h ++ [AObj.cells [dscl d, i64 n, i64 room]]).length = i1 at g1 ⊢
  rcases room with _ | k
  · have z0 : decide ((0 : Nat) = 0) = true := rfl
    cases hpr : parted r.kind
    · have k8 : decide (r.kind = 8) = false := by simp only [parted, Bool.or_eq_false_iff] at hpr; exact hpr.1.1
      have k9 : decide (r.kind = 9) = false := by simp only [parted, Bool.or_eq_false_iff] at hpr; exact hpr.1.2
      have k10 : decide (r.kind = 10) = false := by simp only [parted, Bool.or_eq_false_iff] at hpr; exact hpr.2
      simp only [z0, g0, g1, g2, awH, ↓awD, awP, Nat.reduceLeDiff, Nat.reduceEqDiff, Nat.reduceAdd, Int.reduceLT, Int.reduceLE, Int.reduceEq]
      repeat' (first | ((first | refine EvF.ret (hpt _) ?_ | refine EvRF.ret (hpt _) ?_); simp only [hpr, g0, g1, g2, k8, k9, k10, aw21, awH, ↓awD, awP, Nat.reduceLeDiff, Nat.reduceEqDiff, Nat.reduceAdd, Int.reduceLT, Int.reduceLE, Int.reduceEq]) | ((first | refine EvF.ret (hba _) ?_ | refine EvRF.ret (hba _) ?_); simp only [hpr, g0, g1, g2, k8, k9, k10, aw21, awH, ↓awD, awP, Nat.reduceLeDiff, Nat.reduceEqDiff, Nat.reduceAdd, Int.reduceLT, Int.reduceLE, Int.reduceEq]) | ((first | refine EvF.ret (hsp _) ?_ | refine EvRF.ret (hsp _) ?_); simp only [hpr, g0, g1, g2, k8, k9, k10, aw21, awH, ↓awD, awP, Nat.reduceLeDiff, Nat.reduceEqDiff, Nat.reduceAdd, Int.reduceLT, Int.reduceLE, Int.reduceEq]) | ((first | refine EvF.ret (hc1 _) ?_ | refine EvRF.ret (hc1 _) ?_); simp only [hpr, g0, g1, g2, k8, k9, k10, aw21, awH, ↓awD, awP, Nat.reduceLeDiff, Nat.reduceEqDiff, Nat.reduceAdd, Int.reduceLT, Int.reduceLE, Int.reduceEq]) | ((first | refine EvF.ret (hc2 _) ?_ | refine EvRF.ret (hc2 _) ?_); simp only [hpr, g0, g1, g2, k8, k9, k10, aw21, awH, ↓awD, awP, Nat.reduceLeDiff, Nat.reduceEqDiff, Nat.reduceAdd, Int.reduceLT, Int.reduceLE, Int.reduceEq]) | ((first | refine EvF.ret (ht1 _) ?_ | refine EvRF.ret (ht1 _) ?_); simp only [hpr, g0, g1, g2, k8, k9, k10, aw21, awH, ↓awD, awP, Nat.reduceLeDiff, Nat.reduceEqDiff, Nat.reduceAdd, Int.reduceLT, Int.reduceLE, Int.reduceEq]) | ((first | refine EvF.ret (ht2 _) ?_ | refine EvRF.ret (ht2 _) ?_); simp only [hpr, g0, g1, g2, k8, k9, k10, aw21, awH, ↓awD, awP, Nat.reduceLeDiff, Nat.reduceEqDiff, Nat.reduceAdd, Int.reduceLT, Int.reduceLE, Int.reduceEq]) | ((first | refine EvF.ret (hz1 _) ?_ | refine EvRF.ret (hz1 _) ?_); simp only [hpr, g0, g1, g2, k8, k9, k10, aw21, awH, ↓awD, awP, Nat.reduceLeDiff, Nat.reduceEqDiff, Nat.reduceAdd, Int.reduceLT, Int.reduceLE, Int.reduceEq]) | ((first | refine EvF.ret (hz2 _) ?_ | refine EvRF.ret (hz2 _) ?_); simp only [hpr, g0, g1, g2, k8, k9, k10, aw21, awH, ↓awD, awP, Nat.reduceLeDiff, Nat.reduceEqDiff, Nat.reduceAdd, Int.reduceLT, Int.reduceLE, Int.reduceEq]) | (refine BrF.mk (fun hb => ?_) (fun hb => ?_) <;> (try rw [hb]) <;> simp only [hpr, g0, g1, g2, k8, k9, k10, aw21, awH, ↓awD, awP, Nat.reduceLeDiff, Nat.reduceEqDiff, Nat.reduceAdd, Int.reduceLT, Int.reduceLE, Int.reduceEq]))
      all_goals (try rw [shr1])
      all_goals (clear hB ho hba hsp hc1 hc2 ht1 ht2 hz1 hz2 hpt; refine Fin.end hcl rfl (by rw [← hHd]; simp only [List.append_assoc]; rfl) ⟨?_, rfl⟩; clear hHd; simp only [hasF, kindF, *, cond_true, cond_false, Bool.not_true, Bool.not_false, Bool.and_true, Bool.true_and, Bool.and_false, Bool.false_and, Bool.or_true, Bool.true_or, Bool.or_false, Bool.false_or, decide_true, decide_false])
    · simp only [z0, g0, g1, g2, awH, ↓awD, awP, Nat.reduceLeDiff, Nat.reduceEqDiff, Nat.reduceAdd, Int.reduceLT, Int.reduceLE, Int.reduceEq]
      repeat' (first | ((first | refine EvF.ret (hpt _) ?_ | refine EvRF.ret (hpt _) ?_); simp only [hpr, g0, g1, g2, aw21, awH, ↓awD, awP, Nat.reduceLeDiff, Nat.reduceEqDiff, Nat.reduceAdd, Int.reduceLT, Int.reduceLE, Int.reduceEq]) | (refine BrF.mk (fun hb => ?_) (fun hb => ?_) <;> (try rw [hb]) <;> simp only [hpr, g0, g1, g2, aw21, awH, ↓awD, awP, Nat.reduceLeDiff, Nat.reduceEqDiff, Nat.reduceAdd, Int.reduceLT, Int.reduceLE, Int.reduceEq]))
      all_goals (try rw [shr1])
      all_goals (clear hB ho hba hsp hc1 hc2 ht1 ht2 hz1 hz2 hpt; refine Fin.end hcl rfl (by rw [← hHd]; simp only [List.append_assoc]; rfl) ⟨?_, rfl⟩; clear hHd; simp only [hasF, kindF, *, cond_true, cond_false, Bool.not_true, Bool.not_false, Bool.and_true, Bool.true_and, Bool.and_false, Bool.false_and, Bool.or_true, Bool.true_or, Bool.or_false, Bool.false_or, decide_true, decide_false])
  · have z0 : decide (k + 1 = 0) = false := rfl
    have hsq := fun h => seq_ev d n r k (by omega) v B hr hm hv (fun f hf x hx h => hB k rfl f.t x (.inl ⟨f, hf, rfl⟩) hx h) h
    have hch := fun h => choice_ev d n r k (by omega) v B hr hm hv (fun f hf x hx h => hB k rfl f.t x (.inl ⟨f, hf, rfl⟩) hx h) h
    have hbl := fun m h => below_ev d n ((k + 1 : Nat) : Int) m (by constructor <;> omega) h
    rw [show ((k + 1 : Nat) : Int) - 1 = k by omega] at hbl
    have han := fun h => has_any v.l 26 [rowv d r.elem k] (fun x => !B r.elem x) h (by omega) fun x hx => hasNot_of d r.elem k x (B r.elem x) (fun h => hB k rfl r.elem x (.inr rfl) hx h) h
    simp only [valv_eq] at hsq hch
    simp only [z0, g0, g1, g2, awH, ↓awD, awP, Nat.reduceLeDiff, Nat.reduceEqDiff, Nat.reduceAdd, Int.reduceLT, Int.reduceLE, Int.reduceEq]
    repeat' (first | ((first | refine EvF.ret (hba _) ?_ | refine EvRF.ret (hba _) ?_); simp only [g0, g1, g2, aw21, awH, ↓awD, awP, Nat.reduceLeDiff, Nat.reduceEqDiff, Nat.reduceAdd, Int.reduceLT, Int.reduceLE, Int.reduceEq]) | ((first | refine EvF.ret (hsp _) ?_ | refine EvRF.ret (hsp _) ?_); simp only [g0, g1, g2, aw21, awH, ↓awD, awP, Nat.reduceLeDiff, Nat.reduceEqDiff, Nat.reduceAdd, Int.reduceLT, Int.reduceLE, Int.reduceEq]) | ((first | refine EvF.ret (hc1 _) ?_ | refine EvRF.ret (hc1 _) ?_); simp only [g0, g1, g2, aw21, awH, ↓awD, awP, Nat.reduceLeDiff, Nat.reduceEqDiff, Nat.reduceAdd, Int.reduceLT, Int.reduceLE, Int.reduceEq]) | ((first | refine EvF.ret (hc2 _) ?_ | refine EvRF.ret (hc2 _) ?_); simp only [g0, g1, g2, aw21, awH, ↓awD, awP, Nat.reduceLeDiff, Nat.reduceEqDiff, Nat.reduceAdd, Int.reduceLT, Int.reduceLE, Int.reduceEq]) | ((first | refine EvF.ret (ht1 _) ?_ | refine EvRF.ret (ht1 _) ?_); simp only [g0, g1, g2, aw21, awH, ↓awD, awP, Nat.reduceLeDiff, Nat.reduceEqDiff, Nat.reduceAdd, Int.reduceLT, Int.reduceLE, Int.reduceEq]) | ((first | refine EvF.ret (ht2 _) ?_ | refine EvRF.ret (ht2 _) ?_); simp only [g0, g1, g2, aw21, awH, ↓awD, awP, Nat.reduceLeDiff, Nat.reduceEqDiff, Nat.reduceAdd, Int.reduceLT, Int.reduceLE, Int.reduceEq]) | ((first | refine EvF.ret (hz1 _) ?_ | refine EvRF.ret (hz1 _) ?_); simp only [g0, g1, g2, aw21, awH, ↓awD, awP, Nat.reduceLeDiff, Nat.reduceEqDiff, Nat.reduceAdd, Int.reduceLT, Int.reduceLE, Int.reduceEq]) | ((first | refine EvF.ret (hz2 _) ?_ | refine EvRF.ret (hz2 _) ?_); simp only [g0, g1, g2, aw21, awH, ↓awD, awP, Nat.reduceLeDiff, Nat.reduceEqDiff, Nat.reduceAdd, Int.reduceLT, Int.reduceLE, Int.reduceEq]) | ((first | refine EvF.ret (hsq _) ?_ | refine EvRF.ret (hsq _) ?_); simp only [g0, g1, g2, aw21, awH, ↓awD, awP, Nat.reduceLeDiff, Nat.reduceEqDiff, Nat.reduceAdd, Int.reduceLT, Int.reduceLE, Int.reduceEq]) | ((first | refine EvF.ret (hch _) ?_ | refine EvRF.ret (hch _) ?_); simp only [g0, g1, g2, aw21, awH, ↓awD, awP, Nat.reduceLeDiff, Nat.reduceEqDiff, Nat.reduceAdd, Int.reduceLT, Int.reduceLE, Int.reduceEq]) | ((first | refine EvF.ret (hbl _ _) ?_ | refine EvRF.ret (hbl _ _) ?_); simp only [g0, g1, g2, aw21, awH, ↓awD, awP, Nat.reduceLeDiff, Nat.reduceEqDiff, Nat.reduceAdd, Int.reduceLT, Int.reduceLE, Int.reduceEq]) | ((first | refine EvF.ret (han _) ?_ | refine EvRF.ret (han _) ?_); simp only [g0, g1, g2, aw21, awH, ↓awD, awP, Nat.reduceLeDiff, Nat.reduceEqDiff, Nat.reduceAdd, Int.reduceLT, Int.reduceLE, Int.reduceEq]) | (refine BrF.mk (fun hb => ?_) (fun hb => ?_) <;> (try rw [hb]) <;> simp only [g0, g1, g2, aw21, awH, ↓awD, awP, Nat.reduceLeDiff, Nat.reduceEqDiff, Nat.reduceAdd, Int.reduceLT, Int.reduceLE, Int.reduceEq]))
    all_goals (try rw [shr1])
    all_goals (clear hB ho hba hsp hc1 hc2 ht1 ht2 hz1 hz2 hpt hsq hch hbl han; refine Fin.end hcl rfl (by rw [← hHd]; simp only [List.append_assoc]; rfl) ⟨?_, rfl⟩; clear hHd; simp only [hasF, kindF, *, cond_true, cond_false, Bool.not_true, Bool.not_false, Bool.and_true, Bool.true_and, Bool.and_false, Bool.false_and, Bool.or_true, Bool.true_or, Bool.or_false, Bool.false_or, decide_true, decide_false])

def ac31 : ACode := (.seq (.region [oq 2 (.box (tq 0)), oq 3 (.box (tq 1)), oq 4 (.move (cb false))]) (.seq (.seq (.region [oq 5 (qf 0 3), oq 6 (ql 5)]) (.block 0 (.seq (.seq (.region [oq 8 (.bin .eql (tq 6) (ci 1)), oq 7 (qm 8)]) (.cond (tq 7) .skip (.seq (.region [oq 9 (.bin .eql (tq 6) (ci 2)), oq 7 (qm 9)]) (.cond (tq 7) .skip (.seq (.region [oq 10 (.bin .eql (tq 6) (ci 3)), oq 7 (qm 10)]) (.cond (tq 7) .skip (.region [oq 11 (.bin .eql (tq 6) (ci 7)), oq 7 (qm 11)]))))))) (.cond (tq 7) (.seq (.region [oq 12 (qs 3 2), oq 13 (qs 5 3), oq 14 (.call (.func 42) [((tq 12), false), ((tq 13), false)]), oq 15 (.un .not (tq 14)), oq 4 (qm 15)]) .ret) .skip)))) (.seq (.region [oq 4 (.move (cb true))]) .ret)))
theorem c31 : cfn E0.P [] Tryz.f31 = some (ac31, [(.tmp 4)], 16) := by kernel_rfl

def dz : Dsc := ⟨0, false, [], 0, 0, ⟨#[]⟩, [], [], [], [], [], 0, by unfold InR; decide, by unfold InR; decide, by unfold InR; decide, by unfold InR; decide, by intro x h; cases h⟩
def rowAt (d : List Dsc) (t : Int) : Dsc := d.getD t.toNat dz
def hasV (d : List Dsc) : Nat → Int → Val → Bool
  | 0, t, v => hasF (fun _ _ => true) true (rowAt d t) v
  | k + 1, t, v => hasF (hasV d k) false (rowAt d t) v
def inT (d : List Dsc) (t : Int) : Prop := 0 ≤ t ∧ t < d.length
def RowsOk (d : List Dsc) : Prop := ∀ r, r ∈ d → (∀ f, f ∈ r.fields → inT d f.t) ∧ inT d r.elem
theorem rowAt_get {d : List Dsc} {t : Int} (h : inT d t) : d[t.toNat]? = some (rowAt d t) := by
  have hl : t.toNat < d.length := by have := h.1; have := h.2; omega
  simp [rowAt, List.getD, List.getElem?_eq_getElem hl]
theorem inT_nat {d : List Dsc} {t : Int} (h : inT d t) : ((t.toNat : Nat) : Int) = t := Int.toNat_of_nonneg h.1
theorem hasV_mem {v x : Val} (h : x ∈ v.l) : mxV x ≤ mxV v := by
  have := mxV_le v; have := mxVs_mem h; omega

theorem has_all (d : List Dsc) (hd : ∀ r, r ∈ d → BD (2 ^ 30) r) (ho : RowsOk d) : ∀ (room : Nat), room ≤ 40 → ∀ (t : Int) (v : Val), inT d t → mxV v ≤ 2 ^ 48 → ∀ h, EvR E0 42 [rowv d t room, valv v] h (boolv (hasV d room t v)) := by
  intro room
  induction room with
  | zero =>
    intro _ t v ht hv h
    have hr := rowAt_get ht
    have := has_step d t.toNat (rowAt d t) 0 (by omega) v (fun _ _ => true) hr (hd _ (List.mem_of_getElem? hr)) hv (fun k hk => by omega) h
    rw [inT_nat ht] at this
    exact this
  | succ k ih =>
    intro hk t v ht hv h
    have hr := rowAt_get ht
    have hm := List.mem_of_getElem? hr
    have := has_step d t.toNat (rowAt d t) (k + 1) hk v (hasV d k) hr (hd _ hm) hv (fun k' hk' t' x ht' hx h => by
      obtain rfl : k = k' := by omega
      refine ih (by omega) t' x ?_ (by have := hasV_mem hx; omega) h
      rcases ht' with ⟨f, hf, rfl⟩ | rfl
      · exact (ho _ hm).1 f hf
      · exact (ho _ hm).2) h
    rw [inT_nat ht] at this
    exact this

def simpK (k : Int) : Bool := decide (k = 1) || (decide (k = 2) || (decide (k = 3) || decide (k = 7)))
theorem noDefault_ev (d : List Dsc) (hd : ∀ r, r ∈ d → BD (2 ^ 30) r) (ho : RowsOk d) (t : Int) (v : Val) (ht : inT d t) (hv : mxV v ≤ 2 ^ 48) (h : List AObj) :
    EvR E0 31 [rowv d t ((40 : Nat) : Int), valv v] h (boolv (!(simpK v.kind && hasV d 40 t v))) := by
  refine ev_of (fn := Tryz.f31) (hs := []) Tryz.func31 c31 (by simp) fun hcl => ?_
  have hh := fun h => has_all d hd ho 40 (by omega) t v ht hv h
  simp only [valv_eq] at hh
  simp only [ac31, valv_eq, awH, ↓awD, awP, Nat.reduceLeDiff, Nat.reduceEqDiff, Nat.reduceAdd, Int.reduceLT, Int.reduceLE, Int.reduceEq]
  repeat' (first | ((first | refine EvF.ret (hh _) ?_ | refine EvRF.ret (hh _) ?_); simp only [aw21, aw21, awH, ↓awD, awP, Nat.reduceLeDiff, Nat.reduceEqDiff, Nat.reduceAdd, Int.reduceLT, Int.reduceLE, Int.reduceEq]) | (refine BrF.mk (fun hb => ?_) (fun hb => ?_) <;> (try rw [hb]) <;> simp only [aw21, aw21, awH, ↓awD, awP, Nat.reduceLeDiff, Nat.reduceEqDiff, Nat.reduceAdd, Int.reduceLT, Int.reduceLE, Int.reduceEq]))
  all_goals (refine Fin.end hcl rfl (by first | rfl | exact (List.append_nil _).symm | (simp only [List.append_assoc]; rfl)) ⟨?_, rfl⟩; first | rfl | ((try simp only [dnat, decide_eq_true_eq, decide_eq_false_iff_not, List.length_eq_zero_iff, List.length_pos_iff] at *); first | (simp [*, simpK]; done) | (simp [*, simpK]; omega) | (clear hcl; simp [*, simpK] <;> grind) | (simp [*, simpK])))
end Go.Abs.Fr
