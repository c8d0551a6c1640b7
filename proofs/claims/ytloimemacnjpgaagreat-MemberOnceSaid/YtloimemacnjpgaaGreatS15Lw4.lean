/- MemberOnce. -/
import Derived.Test.YtloimemacnjpgaaGreatS15RwM
set_option linter.all false
namespace Go.Abs.Fr
open Go Go.Abs Go.Proofs
set_option linter.unusedSimpArgs false
set_option maxRecDepth 100000

/-- spandrel/spandrellaw15.MemberOnce -/
def ac4 : ACode := (.seq (.region [⟨(some 3), (.box (.tmp 1)), none⟩, ⟨(some 4), (.move (.const (.bool false))), none⟩]) (.seq (.region [⟨(some 10), (.call (.func 8) []), none⟩, ⟨(some 5), (.move (.tmp 10)), none⟩]) (.seq (.seq (.region [⟨(some 11), (.move (.tmp 0)), none⟩, ⟨(some 12), (.call (.func 9) [((.tmp 11), false)]), none⟩, ⟨(some 13), (.un .not (.tmp 12)), none⟩, ⟨(some 14), (.move (.tmp 13)), none⟩, ⟨(some 15), (.load (some 5) (.tmp 3)), (some (14, false))⟩, ⟨(some 16), (.call (.func 10) [((.tmp 15), false)]), (some (14, false))⟩, ⟨(some 17), (.un .not (.tmp 16)), (some (14, false))⟩, ⟨(some 18), (.pick (.tmp 14) (.const (.bool true)) (.tmp 17)), none⟩]) (.cond (.tmp 18) (.seq (.region [⟨(some 19), (.move (.tmp 5)), none⟩, ⟨(some 4), (.move (.tmp 19)), none⟩]) .ret) .skip)) (.seq (.region [⟨(some 21), (.move (.tmp 0)), none⟩, ⟨(some 22), (.load (some 5) (.tmp 3)), none⟩, ⟨(some 23), (.call (.func 11) [((.tmp 21), false), ((.tmp 22), false)]), none⟩, ⟨(some 20), (.move (.tmp 23)), none⟩, ⟨(some 24), (.extract (.tmp 20) 0), none⟩, ⟨(some 25), (.extract (.tmp 20) 1), none⟩, ⟨(some 6), (.alloc [(.lit (.int .i64 0)), (.lit (.int .i64 0)), (.lit (.string (⟨#[]⟩ : ByteArray))), (.sl .full []), (.sl .full [])]), none⟩, ⟨none, (.store 5 (.tmp 6) (.tmp 24)), none⟩, ⟨(some 7), (.move (.tmp 25)), none⟩]) (.seq (.seq (.region [⟨(some 26), (.move (.tmp 7)), none⟩, ⟨(some 27), (.bin .neq (.tmp 26) (.const (.int .i64 0))), none⟩]) (.cond (.tmp 27) (.seq (.region [⟨(some 28), (.move (.tmp 5)), none⟩, ⟨(some 29), (.move (.tmp 28)), none⟩, ⟨(some 30), (.move (.tmp 7)), (some (29, true))⟩, ⟨(some 31), (.move (.tmp 0)), (some (29, true))⟩, ⟨(some 32), (.load (some 5) (.tmp 3)), (some (29, true))⟩, ⟨(some 33), (.call (.func 15) [((.tmp 31), false), ((.tmp 32), false)]), (some (29, true))⟩, ⟨(some 34), (.bin .eql (.tmp 30) (.tmp 33)), (some (29, true))⟩, ⟨(some 35), (.pick (.tmp 29) (.tmp 34) (.const (.bool false))), none⟩, ⟨(some 36), (.move (.tmp 35)), none⟩, ⟨(some 37), (.fieldAddr 0 (.tmp 6)), (some (36, true))⟩, ⟨(some 38), (.load none (.tmp 37)), (some (36, true))⟩, ⟨(some 39), (.bin .eql (.tmp 38) (.const (.int .i64 0))), (some (36, true))⟩, ⟨(some 40), (.pick (.tmp 36) (.tmp 39) (.const (.bool false))), none⟩, ⟨(some 4), (.move (.tmp 40)), none⟩]) .ret) .skip)) (.seq (.seq (.region [⟨(some 41), (.load (some 5) (.tmp 6)), none⟩, ⟨(some 42), (.buildSlice false 5 [(.lit (.int .i64 0)), (.lit (.int .i64 0)), (.lit (.string (⟨#[]⟩ : ByteArray))), (.sl .full []), (.sl .full [])] 1 [(0, (.tmp 41))]), none⟩, ⟨(some 43), (.call (.func 16) [((.tmp 42), false), ((.const (.int .i64 5000)), false)]), none⟩, ⟨(some 44), (.un .not (.tmp 43)), none⟩]) (.cond (.tmp 44) (.seq (.region [⟨(some 45), (.move (.tmp 5)), none⟩, ⟨(some 4), (.move (.tmp 45)), none⟩]) .ret) .skip)) (.seq (.region [⟨(some 47), (.move (.tmp 0)), none⟩, ⟨(some 48), (.load (some 5) (.tmp 6)), none⟩, ⟨(some 49), (.call (.func 11) [((.tmp 47), false), ((.tmp 48), false)]), none⟩, ⟨(some 46), (.move (.tmp 49)), none⟩, ⟨(some 50), (.extract (.tmp 46) 0), none⟩, ⟨(some 51), (.extract (.tmp 46) 1), none⟩, ⟨(some 8), (.alloc [(.lit (.int .i64 0)), (.lit (.int .i64 0)), (.lit (.string (⟨#[]⟩ : ByteArray))), (.sl .full []), (.sl .full [])]), none⟩, ⟨none, (.store 5 (.tmp 8) (.tmp 50)), none⟩, ⟨(some 9), (.move (.tmp 51)), none⟩]) (.seq (.region [⟨(some 52), (.move (.tmp 5)), none⟩, ⟨(some 53), (.move (.tmp 52)), none⟩, ⟨(some 54), (.move (.tmp 0)), (some (53, true))⟩, ⟨(some 55), (.load (some 5) (.tmp 3)), (some (53, true))⟩, ⟨(some 56), (.call (.func 15) [((.tmp 54), false), ((.tmp 55), false)]), (some (53, true))⟩, ⟨(some 57), (.bin .eql (.tmp 56) (.const (.int .i64 0))), (some (53, true))⟩, ⟨(some 58), (.pick (.tmp 53) (.tmp 57) (.const (.bool false))), none⟩, ⟨(some 59), (.move (.tmp 58)), none⟩, ⟨(some 60), (.move (.tmp 9)), (some (59, true))⟩, ⟨(some 61), (.bin .eql (.tmp 60) (.const (.int .i64 0))), (some (59, true))⟩, ⟨(some 62), (.pick (.tmp 59) (.tmp 61) (.const (.bool false))), none⟩, ⟨(some 63), (.move (.tmp 62)), none⟩, ⟨(some 64), (.load (some 5) (.tmp 6)), (some (63, true))⟩, ⟨(some 65), (.load (some 5) (.tmp 8)), (some (63, true))⟩, ⟨(some 66), (.call (.func 14) [((.tmp 64), false), ((.tmp 65), false)]), (some (63, true))⟩, ⟨(some 67), (.pick (.tmp 63) (.tmp 66) (.const (.bool false))), none⟩, ⟨(some 68), (.move (.tmp 67)), none⟩, ⟨(some 69), (.fieldAddr 0 (.tmp 6)), (some (68, true))⟩, ⟨(some 70), (.load none (.tmp 69)), (some (68, true))⟩, ⟨(some 71), (.fieldAddr 0 (.tmp 3)), (some (68, true))⟩, ⟨(some 72), (.load none (.tmp 71)), (some (68, true))⟩, ⟨(some 73), (.bin .eql (.tmp 70) (.tmp 72)), (some (68, true))⟩, ⟨(some 74), (.pick (.tmp 68) (.tmp 73) (.const (.bool false))), none⟩, ⟨(some 4), (.move (.tmp 74)), none⟩]) .ret))))))))
theorem c4 : cfn E0.P [] Tryz.f4 = some (ac4, [(.tmp 4)], 75) := by kernel_rfl

set_option maxHeartbeats 4000000 in
theorem oncem_ev (d : List Dsc) (v : Val) (hw : Wide d) (hv : mxV v ≤ 2 ^ 47) (h : List AObj) : EvR E0 4 [dscl d, valv v] h (boolv true) := by
  refine Ev.drop rfl ?_
  refine ev_of (fn := Tryz.f4) (hs := []) Tryz.func4 c4 (by simp) fun hcl => ?_
  have haw := fun h => awake_ev h
  have hsm := fun h => small_ev d hw h
  have hfe := fun h => few1_ev v hv h
  simp only [valv_eq] at hfe
  have hpl := hpl h
  cases hss : smallT d
  · rw [hss] at hsm
    simp only [ac4, valv_eq, aw20, List.take_succ_cons, List.take_zero, List.drop_zero, List.drop_succ_cons, List.length_map, ↓awD, awP, Nat.reduceLeDiff, Nat.reduceEqDiff, Nat.reduceAdd, Nat.zero_add, Int.cast_ofNat_Int, Int.reduceLT, Int.reduceLE, Int.reduceEq]
    ((first | refine EvF.ret (haw _) ?_ | refine EvRF.ret (haw _) ?_); simp only [aw21, aw21, aw20, List.take_succ_cons, List.take_zero, List.drop_zero, List.drop_succ_cons, List.length_map, ↓awD, awP, Nat.reduceLeDiff, Nat.reduceEqDiff, Nat.reduceAdd, Nat.zero_add, Int.cast_ofNat_Int, Int.reduceLT, Int.reduceLE, Int.reduceEq])
    ((first | refine EvF.ret (hsm _) ?_ | refine EvRF.ret (hsm _) ?_); simp only [aw21, aw21, aw20, List.take_succ_cons, List.take_zero, List.drop_zero, List.drop_succ_cons, List.length_map, ↓awD, awP, Nat.reduceLeDiff, Nat.reduceEqDiff, Nat.reduceAdd, Nat.zero_add, Int.cast_ofNat_Int, Int.reduceLT, Int.reduceLE, Int.reduceEq])
    exact Fin.all (by simp) ⟨rfl, _, rfl⟩
  rw [hss] at hsm
  obtain ⟨hBD, hdl⟩ := wide_bd hw hss
  cases hff : fewT1 v
  · rw [hff] at hfe
    simp only [ac4, valv_eq, aw20, List.take_succ_cons, List.take_zero, List.drop_zero, List.drop_succ_cons, List.length_map, ↓awD, awP, Nat.reduceLeDiff, Nat.reduceEqDiff, Nat.reduceAdd, Nat.zero_add, Int.cast_ofNat_Int, Int.reduceLT, Int.reduceLE, Int.reduceEq]
    ((first | refine EvF.ret (haw _) ?_ | refine EvRF.ret (haw _) ?_); simp only [aw21, aw21, aw20, List.take_succ_cons, List.take_zero, List.drop_zero, List.drop_succ_cons, List.length_map, ↓awD, awP, Nat.reduceLeDiff, Nat.reduceEqDiff, Nat.reduceAdd, Nat.zero_add, Int.cast_ofNat_Int, Int.reduceLT, Int.reduceLE, Int.reduceEq])
    ((first | refine EvF.ret (hsm _) ?_ | refine EvRF.ret (hsm _) ?_); simp only [aw21, aw21, aw20, List.take_succ_cons, List.take_zero, List.drop_zero, List.drop_succ_cons, List.length_map, ↓awD, awP, Nat.reduceLeDiff, Nat.reduceEqDiff, Nat.reduceAdd, Nat.zero_add, Int.cast_ofNat_Int, Int.reduceLT, Int.reduceLE, Int.reduceEq])
    ((first | refine EvF.ret (hfe _) ?_ | refine EvRF.ret (hfe _) ?_); simp only [aw21, aw21, aw20, List.take_succ_cons, List.take_zero, List.drop_zero, List.drop_succ_cons, List.length_map, ↓awD, awP, Nat.reduceLeDiff, Nat.reduceEqDiff, Nat.reduceAdd, Nat.zero_add, Int.cast_ofNat_Int, Int.reduceLT, Int.reduceLE, Int.reduceEq])
    exact Fin.all (by simp) ⟨rfl, _, rfl⟩
  rw [hff] at hfe
  obtain ⟨hnl, hll, hsz⟩ := few_facts hv hff
  have hch := fun h => check_ev d hBD hdl v (by omega) h
  have hcn := fun h => canon_ev d hBD hdl v (by omega) (by omega) h
  cases hcc : decide (checkT d v = 0)
  · rw [once_no (of_decide_eq_false hcc)] at hcn
    have hz : valv val0 = .agg [i64 0, i64 0, str ⟨#[]⟩, strl [], vall []] := rfl
    simp only [valv_eq] at hch
    rw [hz, valv_eq] at hcn
    simp only [ac4, valv_eq, aw20, List.take_succ_cons, List.take_zero, List.drop_zero, List.drop_succ_cons, List.length_map, ↓awD, awP, Nat.reduceLeDiff, Nat.reduceEqDiff, Nat.reduceAdd, Nat.zero_add, Int.cast_ofNat_Int, Int.reduceLT, Int.reduceLE, Int.reduceEq]
    ((first | refine EvF.ret (haw _) ?_ | refine EvRF.ret (haw _) ?_); simp only [aw21, aw21, aw20, List.take_succ_cons, List.take_zero, List.drop_zero, List.drop_succ_cons, List.length_map, ↓awD, awP, Nat.reduceLeDiff, Nat.reduceEqDiff, Nat.reduceAdd, Nat.zero_add, Int.cast_ofNat_Int, Int.reduceLT, Int.reduceLE, Int.reduceEq])
    ((first | refine EvF.ret (hsm _) ?_ | refine EvRF.ret (hsm _) ?_); simp only [aw21, aw21, aw20, List.take_succ_cons, List.take_zero, List.drop_zero, List.drop_succ_cons, List.length_map, ↓awD, awP, Nat.reduceLeDiff, Nat.reduceEqDiff, Nat.reduceAdd, Nat.zero_add, Int.cast_ofNat_Int, Int.reduceLT, Int.reduceLE, Int.reduceEq])
    ((first | refine EvF.ret (hfe _) ?_ | refine EvRF.ret (hfe _) ?_); simp only [aw21, aw21, aw20, List.take_succ_cons, List.take_zero, List.drop_zero, List.drop_succ_cons, List.length_map, ↓awD, awP, Nat.reduceLeDiff, Nat.reduceEqDiff, Nat.reduceAdd, Nat.zero_add, Int.cast_ofNat_Int, Int.reduceLT, Int.reduceLE, Int.reduceEq])
    repeat' (first | ((first | refine EvF.ret (hcn _) ?_ | refine EvRF.ret (hcn _) ?_); simp only [hcc, hpl, aw21, aw20, List.take_succ_cons, List.take_zero, List.drop_zero, List.drop_succ_cons, List.length_map, ↓awD, awP, Nat.reduceLeDiff, Nat.reduceEqDiff, Nat.reduceAdd, Nat.zero_add, Int.cast_ofNat_Int, Int.reduceLT, Int.reduceLE, Int.reduceEq]) | ((first | refine EvF.ret (hch _) ?_ | refine EvRF.ret (hch _) ?_); simp only [hcc, hpl, aw21, aw20, List.take_succ_cons, List.take_zero, List.drop_zero, List.drop_succ_cons, List.length_map, ↓awD, awP, Nat.reduceLeDiff, Nat.reduceEqDiff, Nat.reduceAdd, Nat.zero_add, Int.cast_ofNat_Int, Int.reduceLT, Int.reduceLE, Int.reduceEq]))

    exact Fin.all (by simp) ⟨rfl, [_, _], by simp; exact ⟨rfl, rfl⟩⟩
  · have hc0 := of_decide_eq_true hcc
    obtain ⟨q1, q2, q3⟩ := once_law hc0
    have hma : mxV (canonT d v) ≤ 2 ^ 48 := by
      have e : canonT d v = canV d 40 0 v := by simp only [canonT, hc0, decide_true, cond_true]
      rw [e]; exact mx_can hBD 40 0 v hv
    generalize hA : canonT d v = a at *
    have hfa := fun h => fewValues_ev2 [a] (by simp only [mxVs, List.length_nil]; omega) 5000 (by omega) (by omega) h
    have hfa2 : ∀ h, EvR E0 16 [.sl .full [.agg [i64 a.kind, i64 a.n, str a.s, strl a.names, vall a.l]], i64 5000] h (boolv (decide (0 ≤ fewVs [a] 5000))) := fun h => (hfa h).high (by rw [← valv_eq]; simp only [lows, AV.low, low_val]; rfl)
    simp only [valv_eq] at hch hcn
    cases hfx : decide (0 ≤ fewVs [a] 5000)
    · simp only [ac4, valv_eq, aw20, List.take_succ_cons, List.take_zero, List.drop_zero, List.drop_succ_cons, List.length_map, ↓awD, awP, Nat.reduceLeDiff, Nat.reduceEqDiff, Nat.reduceAdd, Nat.zero_add, Int.cast_ofNat_Int, Int.reduceLT, Int.reduceLE, Int.reduceEq]
      ((first | refine EvF.ret (haw _) ?_ | refine EvRF.ret (haw _) ?_); simp only [aw21, aw21, aw20, List.take_succ_cons, List.take_zero, List.drop_zero, List.drop_succ_cons, List.length_map, ↓awD, awP, Nat.reduceLeDiff, Nat.reduceEqDiff, Nat.reduceAdd, Nat.zero_add, Int.cast_ofNat_Int, Int.reduceLT, Int.reduceLE, Int.reduceEq])
      ((first | refine EvF.ret (hsm _) ?_ | refine EvRF.ret (hsm _) ?_); simp only [aw21, aw21, aw20, List.take_succ_cons, List.take_zero, List.drop_zero, List.drop_succ_cons, List.length_map, ↓awD, awP, Nat.reduceLeDiff, Nat.reduceEqDiff, Nat.reduceAdd, Nat.zero_add, Int.cast_ofNat_Int, Int.reduceLT, Int.reduceLE, Int.reduceEq])
      ((first | refine EvF.ret (hfe _) ?_ | refine EvRF.ret (hfe _) ?_); simp only [aw21, aw21, aw20, List.take_succ_cons, List.take_zero, List.drop_zero, List.drop_succ_cons, List.length_map, ↓awD, awP, Nat.reduceLeDiff, Nat.reduceEqDiff, Nat.reduceAdd, Nat.zero_add, Int.cast_ofNat_Int, Int.reduceLT, Int.reduceLE, Int.reduceEq])
      ((first | refine EvF.ret (hcn _) ?_ | refine EvRF.ret (hcn _) ?_); simp only [hcc, hpl, aw21, aw20, List.take_succ_cons, List.take_zero, List.drop_zero, List.drop_succ_cons, List.length_map, ↓awD, awP, Nat.reduceLeDiff, Nat.reduceEqDiff, Nat.reduceAdd, Nat.zero_add, Int.cast_ofNat_Int, Int.reduceLT, Int.reduceLE, Int.reduceEq])
      (refine Need.mk (by simp only [litParts, List.mem_cons, List.not_mem_nil, or_false, forall_eq_or_imp, forall_eq]; refine ⟨by decide, by decide, by decide, ?_⟩; repeat' (first | exact ⟨rfl, rfl, rfl⟩ | rfl | constructor)) ?_; simp only [hpl, aw20, List.take_succ_cons, List.take_zero, List.drop_zero, List.drop_succ_cons, List.length_map, ↓awD, awP, Nat.reduceLeDiff, Nat.reduceEqDiff, Nat.reduceAdd, Nat.zero_add, Int.cast_ofNat_Int, Int.reduceLT, Int.reduceLE, Int.reduceEq])
      ((first | refine EvF.ret (hfa2 _) ?_ | refine EvRF.ret (hfa2 _) ?_); simp only [hfx, hpl, aw21, aw20, List.take_succ_cons, List.take_zero, List.drop_zero, List.drop_succ_cons, List.length_map, ↓awD, awP, Nat.reduceLeDiff, Nat.reduceEqDiff, Nat.reduceAdd, Nat.zero_add, Int.cast_ofNat_Int, Int.reduceLT, Int.reduceLE, Int.reduceEq])
      exact Fin.all (by simp) ⟨rfl, [_, _], by simp; exact ⟨rfl, rfl⟩⟩
    · have hsa : szV a ≤ 5000 := by
        have hb := fewVs_b [a] 5000 (by simp only [mxVs, List.length_nil]; omega) (by omega)
        have hz := hb.2.2 (of_decide_eq_true hfx)
        simp only [szVs] at hz
        have := of_decide_eq_true hfx
        omega
      have hcn2 := fun h => canon_ev d hBD hdl a (by omega) (by omega) h
      have hsame := fun h => same_ev 5000 a a hsa hma hma h
      have hee : eqV a a = true := eqV_iff.2 rfl
      rw [hee] at hsame
      rw [q2, q3] at hcn2
      simp only [valv_eq] at hcn2 hsame
      simp only [ac4, valv_eq, aw20, List.take_succ_cons, List.take_zero, List.drop_zero, List.drop_succ_cons, List.length_map, ↓awD, awP, Nat.reduceLeDiff, Nat.reduceEqDiff, Nat.reduceAdd, Nat.zero_add, Int.cast_ofNat_Int, Int.reduceLT, Int.reduceLE, Int.reduceEq]
      ((first | refine EvF.ret (haw _) ?_ | refine EvRF.ret (haw _) ?_); simp only [aw21, aw21, aw20, List.take_succ_cons, List.take_zero, List.drop_zero, List.drop_succ_cons, List.length_map, ↓awD, awP, Nat.reduceLeDiff, Nat.reduceEqDiff, Nat.reduceAdd, Nat.zero_add, Int.cast_ofNat_Int, Int.reduceLT, Int.reduceLE, Int.reduceEq])
      ((first | refine EvF.ret (hsm _) ?_ | refine EvRF.ret (hsm _) ?_); simp only [aw21, aw21, aw20, List.take_succ_cons, List.take_zero, List.drop_zero, List.drop_succ_cons, List.length_map, ↓awD, awP, Nat.reduceLeDiff, Nat.reduceEqDiff, Nat.reduceAdd, Nat.zero_add, Int.cast_ofNat_Int, Int.reduceLT, Int.reduceLE, Int.reduceEq])
      ((first | refine EvF.ret (hfe _) ?_ | refine EvRF.ret (hfe _) ?_); simp only [aw21, aw21, aw20, List.take_succ_cons, List.take_zero, List.drop_zero, List.drop_succ_cons, List.length_map, ↓awD, awP, Nat.reduceLeDiff, Nat.reduceEqDiff, Nat.reduceAdd, Nat.zero_add, Int.cast_ofNat_Int, Int.reduceLT, Int.reduceLE, Int.reduceEq])
      ((first | refine EvF.ret (hcn _) ?_ | refine EvRF.ret (hcn _) ?_); simp only [hcc, hpl, aw21, aw20, List.take_succ_cons, List.take_zero, List.drop_zero, List.drop_succ_cons, List.length_map, ↓awD, awP, Nat.reduceLeDiff, Nat.reduceEqDiff, Nat.reduceAdd, Nat.zero_add, Int.cast_ofNat_Int, Int.reduceLT, Int.reduceLE, Int.reduceEq])
      (refine Need.mk (by simp only [litParts, List.mem_cons, List.not_mem_nil, or_false, forall_eq_or_imp, forall_eq]; refine ⟨by decide, by decide, by decide, ?_⟩; repeat' (first | exact ⟨rfl, rfl, rfl⟩ | rfl | constructor)) ?_; simp only [hpl, aw20, List.take_succ_cons, List.take_zero, List.drop_zero, List.drop_succ_cons, List.length_map, ↓awD, awP, Nat.reduceLeDiff, Nat.reduceEqDiff, Nat.reduceAdd, Nat.zero_add, Int.cast_ofNat_Int, Int.reduceLT, Int.reduceLE, Int.reduceEq])
      ((first | refine EvF.ret (hfa2 _) ?_ | refine EvRF.ret (hfa2 _) ?_); simp only [hfx, hpl, aw21, aw20, List.take_succ_cons, List.take_zero, List.drop_zero, List.drop_succ_cons, List.length_map, ↓awD, awP, Nat.reduceLeDiff, Nat.reduceEqDiff, Nat.reduceAdd, Nat.zero_add, Int.cast_ofNat_Int, Int.reduceLT, Int.reduceLE, Int.reduceEq])
      ((first | refine EvF.ret (hcn2 _) ?_ | refine EvRF.ret (hcn2 _) ?_); simp only [hcc, hpl, aw21, aw20, List.take_succ_cons, List.take_zero, List.drop_zero, List.drop_succ_cons, List.length_map, ↓awD, awP, Nat.reduceLeDiff, Nat.reduceEqDiff, Nat.reduceAdd, Nat.zero_add, Int.cast_ofNat_Int, Int.reduceLT, Int.reduceLE, Int.reduceEq])
      ((first | refine EvF.ret (hch _) ?_ | refine EvRF.ret (hch _) ?_); simp only [hcc, hpl, aw21, aw20, List.take_succ_cons, List.take_zero, List.drop_zero, List.drop_succ_cons, List.length_map, ↓awD, awP, Nat.reduceLeDiff, Nat.reduceEqDiff, Nat.reduceAdd, Nat.zero_add, Int.cast_ofNat_Int, Int.reduceLT, Int.reduceLE, Int.reduceEq])
      ((first | refine EvF.ret (hsame _) ?_ | refine EvRF.ret (hsame _) ?_); simp only [hcc, hpl, q1, aw21, aw20, List.take_succ_cons, List.take_zero, List.drop_zero, List.drop_succ_cons, List.length_map, ↓awD, awP, Nat.reduceLeDiff, Nat.reduceEqDiff, Nat.reduceAdd, Nat.zero_add, Int.cast_ofNat_Int, Int.reduceLT, Int.reduceLE, Int.reduceEq])
      exact Fin.all (by simp) ⟨rfl, [_, _, _], by simp; exact ⟨rfl, rfl, rfl⟩⟩
end Go.Abs.Fr
