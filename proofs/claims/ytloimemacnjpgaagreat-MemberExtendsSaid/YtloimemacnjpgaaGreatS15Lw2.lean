/- MemberExtends. -/
import Derived.Test.YtloimemacnjpgaaGreatS15RwM
import Derived.Test.YtloimemacnjpgaaGreatAbsZn
set_option linter.all false
namespace Go.Abs.Fr
open Go Go.Abs Go.Proofs
set_option linter.unusedSimpArgs false
set_option maxRecDepth 100000

/-- spandrel/spandrellaw15.MemberExtends -/
def ac7 : ACode := (.seq (.region [⟨(some 3), (.box (.tmp 1)), none⟩, ⟨(some 4), (.move (.const (.bool false))), none⟩]) (.seq (.region [⟨(some 7), (.call (.func 8) []), none⟩, ⟨(some 5), (.move (.tmp 7)), none⟩]) (.seq (.seq (.region [⟨(some 8), (.move (.tmp 0)), none⟩, ⟨(some 9), (.call (.func 9) [((.tmp 8), false)]), none⟩, ⟨(some 10), (.un .not (.tmp 9)), none⟩, ⟨(some 11), (.move (.tmp 10)), none⟩, ⟨(some 12), (.load (some 5) (.tmp 3)), (some (11, false))⟩, ⟨(some 13), (.call (.func 10) [((.tmp 12), false)]), (some (11, false))⟩, ⟨(some 14), (.un .not (.tmp 13)), (some (11, false))⟩, ⟨(some 15), (.pick (.tmp 11) (.const (.bool true)) (.tmp 14)), none⟩, ⟨(some 16), (.move (.tmp 15)), none⟩, ⟨(some 17), (.move (.tmp 0)), (some (16, false))⟩, ⟨(some 18), (.load (some 5) (.tmp 3)), (some (16, false))⟩, ⟨(some 19), (.call (.func 15) [((.tmp 17), false), ((.tmp 18), false)]), (some (16, false))⟩, ⟨(some 20), (.bin .neq (.tmp 19) (.const (.int .i64 0))), (some (16, false))⟩, ⟨(some 21), (.pick (.tmp 16) (.const (.bool true)) (.tmp 20)), none⟩]) (.cond (.tmp 21) (.seq (.region [⟨(some 22), (.move (.tmp 5)), none⟩, ⟨(some 4), (.move (.tmp 22)), none⟩]) .ret) .skip)) (.seq (.region [⟨(some 23), (.buildSlice false 12 [(.lit (.int .i64 0)), (.lit (.bool false)), (.sl .full []), (.lit (.int .i64 0)), (.lit (.int .i64 0)), (.lit (.string (⟨#[]⟩ : ByteArray))), (.sl .full []), (.sl .full []), (.sl .full []), (.sl .full []), (.sl .full []), (.lit (.int .i64 0))] 0 []), none⟩, ⟨(some 24), (.move (.tmp 0)), none⟩, ⟨(some 25), (.appendO 12 200 [(.lit (.int .i64 0)), (.lit (.bool false)), (.sl .full []), (.lit (.int .i64 0)), (.lit (.int .i64 0)), (.lit (.string (⟨#[]⟩ : ByteArray))), (.sl .full []), (.sl .full []), (.sl .full []), (.sl .full []), (.sl .full []), (.lit (.int .i64 0))] (.tmp 23) (.tmp 24)), none⟩, ⟨(some 6), (.move (.tmp 25)), none⟩]) (.seq (.region [⟨(some 26), (.move (.tmp 6)), none⟩, ⟨(some 27), (.indexAddr 12 (.tmp 26) (.const (.int .i64 0))), none⟩, ⟨(some 28), (.fieldAddr 1 (.tmp 27)), none⟩, ⟨none, (.store 1 (.tmp 28) (.const (.bool true))), none⟩]) (.seq (.seq (.region [⟨(some 29), (.move (.tmp 6)), none⟩, ⟨(some 30), (.call (.func 17) [((.tmp 29), false)]), none⟩, ⟨(some 31), (.un .not (.tmp 30)), none⟩]) (.cond (.tmp 31) (.seq (.region [⟨(some 32), (.move (.tmp 5)), none⟩, ⟨(some 33), (.move (.tmp 32)), none⟩, ⟨(some 34), (.move (.tmp 0)), (some (33, true))⟩, ⟨(some 35), (.indexAddr 12 (.tmp 34) (.const (.int .i64 0))), (some (33, true))⟩, ⟨(some 36), (.fieldAddr 0 (.tmp 35)), (some (33, true))⟩, ⟨(some 37), (.load none (.tmp 36)), (some (33, true))⟩, ⟨(some 38), (.bin .eql (.tmp 37) (.const (.int .i64 1))), (some (33, true))⟩, ⟨(some 39), (.move (.tmp 38)), (some (33, true))⟩, ⟨(some 40), (.move (.tmp 0)), (some (39, false))⟩, ⟨(some 41), (.indexAddr 12 (.tmp 40) (.const (.int .i64 0))), (some (39, false))⟩, ⟨(some 42), (.fieldAddr 0 (.tmp 41)), (some (39, false))⟩, ⟨(some 43), (.load none (.tmp 42)), (some (39, false))⟩, ⟨(some 44), (.bin .eql (.tmp 43) (.const (.int .i64 4))), (some (39, false))⟩, ⟨(some 45), (.pick (.tmp 39) (.const (.bool true)) (.tmp 44)), (some (33, true))⟩, ⟨(some 46), (.pick (.tmp 33) (.tmp 45) (.const (.bool false))), none⟩, ⟨(some 4), (.move (.tmp 46)), none⟩]) .ret) .skip)) (.seq (.region [⟨(some 47), (.move (.tmp 5)), none⟩, ⟨(some 48), (.move (.tmp 47)), none⟩, ⟨(some 49), (.move (.tmp 6)), (some (48, true))⟩, ⟨(some 50), (.load (some 5) (.tmp 3)), (some (48, true))⟩, ⟨(some 51), (.call (.func 15) [((.tmp 49), false), ((.tmp 50), false)]), (some (48, true))⟩, ⟨(some 52), (.bin .eql (.tmp 51) (.const (.int .i64 0))), (some (48, true))⟩, ⟨(some 53), (.pick (.tmp 48) (.tmp 52) (.const (.bool false))), none⟩, ⟨(some 4), (.move (.tmp 53)), none⟩]) .ret)))))))
theorem c7 : cfn E0.P [(4,2)] Tryz.f7 = some (ac7, [(.tmp 4)], 54) := by kernel_rfl

theorem fit_dscs (l : List Dsc) : Fit 12 (l.map dscv) := by
  intro e he; obtain ⟨c, _, rfl⟩ := List.mem_map.1 he; exact ⟨rfl, rfl⟩
theorem one_dscs (l : List Dsc) : allOne (l.map dscv) := by
  intro e he; obtain ⟨c, _, rfl⟩ := List.mem_map.1 he; rfl
theorem strip_dscs : ∀ (l : List Dsc), (flatC (l.map dscv)).map AV.strip = flatC (l.map dscv)
  | [] => rfl
  | a :: l => by show ((dscv a).cells ++ flatC (l.map dscv)).map AV.strip = (dscv a).cells ++ flatC (l.map dscv); rw [List.map_append, strip_dscs l]; rfl
def z12 : List AV := [.lit (.int .i64 0), .lit (.bool false), .sl .full [], .lit (.int .i64 0), .lit (.int .i64 0), .lit (.string ⟨#[]⟩), .sl .full [], .sl .full [], .sl .full [], .sl .full [], .sl .full [], .lit (.int .i64 0)]
theorem setE_bd {d : List Dsc} (h : ∀ r, r ∈ d → BD (2 ^ 30) r) : ∀ r, r ∈ extD d → BD (2 ^ 30) r := by
  cases d with
  | nil => exact h
  | cons a d =>
    intro r hr
    rcases List.mem_cons.1 hr with rfl | hr
    · exact h a List.mem_cons_self
    · exact h r (List.mem_cons_of_mem _ hr)
theorem extends_law (d : List Dsc) (v : Val) (hw : Wide d) (hv : mxV v ≤ 2 ^ 47) (h : List AObj) : EvR E0 7 [dscl d, valv v] h (boolv true) := by
  refine Ev.drop rfl ?_
  refine ev_of (fn := Tryz.f7) (hs := [(4,2)]) Tryz.func7 c7 (by simp) fun hcl => ?_
  have haw := fun h => awake_ev h
  have hsm := fun h => small_ev d hw h
  have hfe := fun h => few1_ev v hv h
  simp only [valv_eq] at hfe
  have hpl := hpl h
  cases hss : smallT d
  · rw [hss] at hsm
    simp only [ac7, valv_eq, aw20, List.take_succ_cons, List.take_zero, List.drop_zero, List.drop_succ_cons, List.length_map, ↓awD, awP, Nat.reduceLeDiff, Nat.reduceEqDiff, Nat.reduceAdd, Nat.zero_add, Int.cast_ofNat_Int, Int.reduceLT, Int.reduceLE, Int.reduceEq]
    ((first | refine EvF.ret (haw _) ?_ | refine EvRF.ret (haw _) ?_); simp only [aw21, aw21, aw20, List.take_succ_cons, List.take_zero, List.drop_zero, List.drop_succ_cons, List.length_map, ↓awD, awP, Nat.reduceLeDiff, Nat.reduceEqDiff, Nat.reduceAdd, Nat.zero_add, Int.cast_ofNat_Int, Int.reduceLT, Int.reduceLE, Int.reduceEq])
    ((first | refine EvF.ret (hsm _) ?_ | refine EvRF.ret (hsm _) ?_); simp only [aw21, aw21, aw20, List.take_succ_cons, List.take_zero, List.drop_zero, List.drop_succ_cons, List.length_map, ↓awD, awP, Nat.reduceLeDiff, Nat.reduceEqDiff, Nat.reduceAdd, Nat.zero_add, Int.cast_ofNat_Int, Int.reduceLT, Int.reduceLE, Int.reduceEq])
    exact Fin.all (by simp) ⟨rfl, _, rfl⟩
  · rw [hss] at hsm
    obtain ⟨hBD, hdl⟩ := wide_bd hw hss
    cases hff : fewT1 v
    · rw [hff] at hfe
      simp only [ac7, valv_eq, aw20, List.take_succ_cons, List.take_zero, List.drop_zero, List.drop_succ_cons, List.length_map, ↓awD, awP, Nat.reduceLeDiff, Nat.reduceEqDiff, Nat.reduceAdd, Nat.zero_add, Int.cast_ofNat_Int, Int.reduceLT, Int.reduceLE, Int.reduceEq]
      ((first | refine EvF.ret (haw _) ?_ | refine EvRF.ret (haw _) ?_); simp only [aw21, aw21, aw20, List.take_succ_cons, List.take_zero, List.drop_zero, List.drop_succ_cons, List.length_map, ↓awD, awP, Nat.reduceLeDiff, Nat.reduceEqDiff, Nat.reduceAdd, Nat.zero_add, Int.cast_ofNat_Int, Int.reduceLT, Int.reduceLE, Int.reduceEq])
      ((first | refine EvF.ret (hsm _) ?_ | refine EvRF.ret (hsm _) ?_); simp only [aw21, aw21, aw20, List.take_succ_cons, List.take_zero, List.drop_zero, List.drop_succ_cons, List.length_map, ↓awD, awP, Nat.reduceLeDiff, Nat.reduceEqDiff, Nat.reduceAdd, Nat.zero_add, Int.cast_ofNat_Int, Int.reduceLT, Int.reduceLE, Int.reduceEq])
      ((first | refine EvF.ret (hfe _) ?_ | refine EvRF.ret (hfe _) ?_); simp only [aw21, aw21, aw20, List.take_succ_cons, List.take_zero, List.drop_zero, List.drop_succ_cons, List.length_map, ↓awD, awP, Nat.reduceLeDiff, Nat.reduceEqDiff, Nat.reduceAdd, Nat.zero_add, Int.cast_ofNat_Int, Int.reduceLT, Int.reduceLE, Int.reduceEq])
      exact Fin.all (by simp) ⟨rfl, _, rfl⟩
    · rw [hff] at hfe
      have hch := fun h => check_ev d hBD hdl v (by omega) h
      simp only [valv_eq] at hch
      cases hcc : decide (checkT d v = 0)
      · simp only [ac7, valv_eq, aw20, List.take_succ_cons, List.take_zero, List.drop_zero, List.drop_succ_cons, List.length_map, ↓awD, awP, Nat.reduceLeDiff, Nat.reduceEqDiff, Nat.reduceAdd, Nat.zero_add, Int.cast_ofNat_Int, Int.reduceLT, Int.reduceLE, Int.reduceEq]
        ((first | refine EvF.ret (haw _) ?_ | refine EvRF.ret (haw _) ?_); simp only [aw21, aw21, aw20, List.take_succ_cons, List.take_zero, List.drop_zero, List.drop_succ_cons, List.length_map, ↓awD, awP, Nat.reduceLeDiff, Nat.reduceEqDiff, Nat.reduceAdd, Nat.zero_add, Int.cast_ofNat_Int, Int.reduceLT, Int.reduceLE, Int.reduceEq])
        ((first | refine EvF.ret (hsm _) ?_ | refine EvRF.ret (hsm _) ?_); simp only [aw21, aw21, aw20, List.take_succ_cons, List.take_zero, List.drop_zero, List.drop_succ_cons, List.length_map, ↓awD, awP, Nat.reduceLeDiff, Nat.reduceEqDiff, Nat.reduceAdd, Nat.zero_add, Int.cast_ofNat_Int, Int.reduceLT, Int.reduceLE, Int.reduceEq])
        ((first | refine EvF.ret (hfe _) ?_ | refine EvRF.ret (hfe _) ?_); simp only [aw21, aw21, aw20, List.take_succ_cons, List.take_zero, List.drop_zero, List.drop_succ_cons, List.length_map, ↓awD, awP, Nat.reduceLeDiff, Nat.reduceEqDiff, Nat.reduceAdd, Nat.zero_add, Int.cast_ofNat_Int, Int.reduceLT, Int.reduceLE, Int.reduceEq])
        ((first | refine EvF.ret (hch _) ?_ | refine EvRF.ret (hch _) ?_); simp only [hcc, aw21, aw20, List.take_succ_cons, List.take_zero, List.drop_zero, List.drop_succ_cons, List.length_map, ↓awD, awP, Nat.reduceLeDiff, Nat.reduceEqDiff, Nat.reduceAdd, Nat.zero_add, Int.cast_ofNat_Int, Int.reduceLT, Int.reduceLE, Int.reduceEq])
        exact Fin.all (by simp) ⟨rfl, _, rfl⟩
      · have hc0 := of_decide_eq_true hcc
        obtain ⟨x1, x2⟩ := ext_law hc0
        have hpos : 0 < d.length := (tab_ok (check_iff.1 hc0).1).2
        obtain ⟨r0, dr, hd0⟩ : ∃ r0 dr, d = r0 :: dr := List.exists_cons_of_length_pos hpos
        simp only [ac7, valv_eq, aw20, List.take_succ_cons, List.take_zero, List.drop_zero, List.drop_succ_cons, List.length_map, ↓awD, awP, Nat.reduceLeDiff, Nat.reduceEqDiff, Nat.reduceAdd, Nat.zero_add, Int.cast_ofNat_Int, Int.reduceLT, Int.reduceLE, Int.reduceEq]
        ((first | refine EvF.ret (haw _) ?_ | refine EvRF.ret (haw _) ?_); simp only [aw21, aw21, aw20, List.take_succ_cons, List.take_zero, List.drop_zero, List.drop_succ_cons, List.length_map, ↓awD, awP, Nat.reduceLeDiff, Nat.reduceEqDiff, Nat.reduceAdd, Nat.zero_add, Int.cast_ofNat_Int, Int.reduceLT, Int.reduceLE, Int.reduceEq])
        ((first | refine EvF.ret (hsm _) ?_ | refine EvRF.ret (hsm _) ?_); simp only [aw21, aw21, aw20, List.take_succ_cons, List.take_zero, List.drop_zero, List.drop_succ_cons, List.length_map, ↓awD, awP, Nat.reduceLeDiff, Nat.reduceEqDiff, Nat.reduceAdd, Nat.zero_add, Int.cast_ofNat_Int, Int.reduceLT, Int.reduceLE, Int.reduceEq])
        ((first | refine EvF.ret (hfe _) ?_ | refine EvRF.ret (hfe _) ?_); simp only [aw21, aw21, aw20, List.take_succ_cons, List.take_zero, List.drop_zero, List.drop_succ_cons, List.length_map, ↓awD, awP, Nat.reduceLeDiff, Nat.reduceEqDiff, Nat.reduceAdd, Nat.zero_add, Int.cast_ofNat_Int, Int.reduceLT, Int.reduceLE, Int.reduceEq])
        ((first | refine EvF.ret (hch _) ?_ | refine EvRF.ret (hch _) ?_); simp only [hcc, hpl, aw21, aw20, List.take_succ_cons, List.take_zero, List.drop_zero, List.drop_succ_cons, List.length_map, ↓awD, awP, Nat.reduceLeDiff, Nat.reduceEqDiff, Nat.reduceAdd, Nat.zero_add, Int.cast_ofNat_Int, Int.reduceLT, Int.reduceLE, Int.reduceEq])
        refine Need.mk ⟨rfl, by decide, by decide, by simp [litParts]⟩ ?_
        simp only [hpl, List.nil_append, aw20, List.take_succ_cons, List.take_zero, List.drop_zero, List.drop_succ_cons, List.length_map, ↓awD, awP, Nat.reduceLeDiff, Nat.reduceEqDiff, Nat.reduceAdd, Nat.zero_add, Int.cast_ofNat_Int, Int.reduceLT, Int.reduceLE, Int.reduceEq]
        have hdl60 : d.length ≤ 60 := by simp only [smallT, Bool.and_eq_true, decide_eq_true_eq] at hss; exact hss.1
        refine AppO.use (z := z12) (P := h ++ [AObj.cells [i64 v.kind, i64 v.n, str v.s, strl v.names, vall v.l]]) (J := []) (lo := (h ++ [AObj.cells [i64 v.kind, i64 v.n, str v.s, strl v.names, vall v.l]]).length) (es := []) (by simp) rfl (.inl ⟨rfl, rfl⟩) (by decide) rfl (fun e he => by cases he) (fit_dscs _) (one_dscs _) rfl (strip_dscs _) (by simp only [List.length_map, List.length_nil]; omega) (by simp only [List.length_map, List.length_nil]; omega) (by rw [hd0]; simp) fun J1 s1 hs1 hF1 hH1 => ?_
        rcases hs1 with ⟨_, he⟩ | ⟨id, cap, rfl, q2, q3, q4⟩
        · rw [hd0] at he; simp at he
        rw [List.nil_append, List.length_map] at q3
        rw [List.nil_append] at q2
        simp only [List.nil_append, List.length_map]
        have hidlt := (List.getElem?_eq_some_iff.1 q2).1
        rw [hpl.1.1] at q4
        have hset : (dynL z12 (d.map dscv) cap).set 1 (.lit (.bool true)) = dynL z12 ((extD d).map dscv) cap := by
          rw [hd0]; rfl
        have hl12 : (dynL z12 (d.map dscv) cap).length = cap * 12 := dynL_len (fit_dscs _) rfl (by rw [List.length_map]; exact q3)
        generalize hM : dynL z12 (d.map dscv) cap = M at *
        have hM1 : 1 < M.length := by omega
        have g0 : (h ++ [AObj.cells [i64 v.kind, i64 v.n, str v.s, strl v.names, vall v.l]] ++ J1)[h.length]? = some (AObj.cells [i64 v.kind, i64 v.n, str v.s, strl v.names, vall v.l]) := by simp
        simp only [q2, g0, aw20, List.take_succ_cons, List.take_zero, List.drop_zero, List.drop_succ_cons, List.length_map, ↓awD, awP, Nat.reduceLeDiff, Nat.reduceEqDiff, Nat.reduceAdd, Nat.zero_add, Int.cast_ofNat_Int, Int.reduceLT, Int.reduceLE, Int.reduceEq]
        refine Need.mk (by omega) ?_
        simp only [q2, g0, Int.toNat_zero, Nat.zero_mul, aw20, List.take_succ_cons, List.take_zero, List.drop_zero, List.drop_succ_cons, List.length_map, ↓awD, awP, Nat.reduceLeDiff, Nat.reduceEqDiff, Nat.reduceAdd, Nat.zero_add, Int.cast_ofNat_Int, Int.reduceLT, Int.reduceLE, Int.reduceEq]
        refine Need.mk (by omega) ?_
        have hset2 : setMany M 1 [AV.lit (.bool true)] = dynL z12 ((extD d).map dscv) cap := hset
        simp only [hset2, q2, g0, aw20, List.take_succ_cons, List.take_zero, List.drop_zero, List.drop_succ_cons, List.length_map, ↓awD, awP, Nat.reduceLeDiff, Nat.reduceEqDiff, Nat.reduceAdd, Nat.zero_add, Int.cast_ofNat_Int, Int.reduceLT, Int.reduceLE, Int.reduceEq]
        have gx : ∀ (o : AObj), ((h ++ [AObj.cells [i64 v.kind, i64 v.n, str v.s, strl v.names, vall v.l]] ++ J1).set id o)[id]? = some o := fun o => List.getElem?_set_self hidlt
        have g0x : ∀ (o : AObj), ((h ++ [AObj.cells [i64 v.kind, i64 v.n, str v.s, strl v.names, vall v.l]] ++ J1).set id o)[h.length]? = some (AObj.cells [i64 v.kind, i64 v.n, str v.s, strl v.names, vall v.l]) := fun o => by rw [List.getElem?_set_ne (by omega)]; exact g0
        have hBX := setE_bd hBD
        have hlX : (extD d).length = d.length := extD_len d
        have lent : ∀ H, H[id]? = some (AObj.cells (dynL z12 ((extD d).map dscv) cap)) → Lent2 H (.vw id 0 d.length cap) (dscl (extD d)) := fun H hH => .many (k := 12) hH (by
          have := dyn_take (z := z12) (cap := cap) (fit_dscs (extD d)); rw [List.length_map, hlX] at this; exact this) (fit_dscs _) (one_dscs _) (by rw [List.length_map, hlX]) (unders_of fun x hx => by
            simp only [flatC, List.mem_flatMap, List.mem_map] at hx
            obtain ⟨_, ⟨c, _, rfl⟩, hx⟩ := hx
            have hu := und_dsc 0 c
            simp only [dscv, AV.under] at hu
            obtain ⟨i, hi⟩ := List.getElem?_of_mem hx
            exact unders_get hu hi)
        have cR : ∀ H, H[id]? = some (AObj.cells (dynL z12 ((extD d).map dscv) cap)) → EvR E0 17 [.vw id 0 d.length cap] H (boolv (rightT (extD d))) := fun H hH =>
          EvR.lend2 (args' := [dscl (extD d)]) Tryz.func17 (by rfl) rfl (mright_ev (extD d) hBX (by omega) []) rfl fun i a a' ha ha' => by
            match i, ha, ha' with
            | 0, ha, ha' => cases ha; cases ha'; exact ⟨lent H hH, fun k es => by simp⟩
        have cC : ∀ H, H[id]? = some (AObj.cells (dynL z12 ((extD d).map dscv) cap)) → EvR E0 15 [.vw id 0 d.length cap, .agg [i64 v.kind, i64 v.n, str v.s, strl v.names, vall v.l]] H (i64 (checkT (extD d) v)) := fun H hH =>
          EvR.lend2 (args' := [dscl (extD d), valv v]) Tryz.func15 (by rfl) rfl (check_ev (extD d) hBX (by omega) v (by omega) []) rfl fun i a a' ha ha' => by
            match i, ha, ha' with
            | 0, ha, ha' => cases ha; cases ha'; exact ⟨lent H hH, fun k es => by simp⟩
            | 1, ha, ha' => cases ha; cases ha'; rw [valv_eq]; exact ⟨.same (by rw [← valv_eq]; exact und_val 0 v), fun k es => by simp⟩
        have hle : h.length ≤ ((h ++ [AObj.cells [i64 v.kind, i64 v.n, str v.s, strl v.names, vall v.l]] ++ J1).set id (AObj.cells (dynL z12 ((extD d).map dscv) cap))).length := by simp
        have hJx : ∀ o, ∃ J, (h ++ [AObj.cells [i64 v.kind, i64 v.n, str v.s, strl v.names, vall v.l]] ++ J1).set id o = h ++ J := fun o => by
          rw [List.append_assoc, List.set_append_right _ _ (by omega)]; exact ⟨_, rfl⟩
        have hga : (d.map dscv)[0]? = some (dscv r0) := by rw [hd0]; rfl
        cases hrx : rightT (extD d)
        · rw [hrx] at cR
          have hk0 : r0.kind = 1 ∨ r0.kind = 4 := by have := x1 hrx; rw [hd0] at this; exact this
          refine EvF.ret (cR _ (gx _)) ?_
          simp only [aw20, List.take_succ_cons, List.take_zero, List.drop_zero, List.drop_succ_cons, List.length_map, ↓awD, awP, Nat.reduceLeDiff, Nat.reduceEqDiff, Nat.reduceAdd, Nat.zero_add, Int.cast_ofNat_Int, Int.reduceLT, Int.reduceLE, Int.reduceEq]
          cases k1 : decide (r0.kind = 1)
          · have k4 : decide (r0.kind = 4) = true := by simp only [decide_eq_false_iff_not, decide_eq_true_eq] at k1 ⊢; exact hk0.resolve_left k1
            repeat' (first | ((first | refine Need.mk (by first | (first | omega | (simp only [decide_eq_true_eq, decide_eq_false_iff_not, Bool.and_eq_true, Bool.not_eq_true', Bool.not_eq_false', List.length_map] at *; omega) | (simp; omega)) | (constructor <;> (first | omega | (simp only [decide_eq_true_eq, decide_eq_false_iff_not, Bool.and_eq_true, Bool.not_eq_true', Bool.not_eq_false', List.length_map] at *; omega) | (simp; omega)))) (Elem.recs hga (by first | (rw [dscv_eq]; exact ⟨rfl, rfl⟩) | exact ⟨rfl, rfl⟩) ?_) | refine Elem.recs hga (by first | (rw [dscv_eq]; exact ⟨rfl, rfl⟩) | exact ⟨rfl, rfl⟩) ?_); simp only [dscv_eq, k1, k4, aw21, aw20, List.take_succ_cons, List.take_zero, List.drop_zero, List.drop_succ_cons, List.length_map, ↓awD, awP, Nat.reduceLeDiff, Nat.reduceEqDiff, Nat.reduceAdd, Nat.zero_add, Int.cast_ofNat_Int, Int.reduceLT, Int.reduceLE, Int.reduceEq]) | (refine BrF.mk (fun hb => ?_) (fun hb => ?_) <;> (try rw [hb]) <;> simp only [k1, k4, aw21, aw20, List.take_succ_cons, List.take_zero, List.drop_zero, List.drop_succ_cons, List.length_map, ↓awD, awP, Nat.reduceLeDiff, Nat.reduceEqDiff, Nat.reduceAdd, Nat.zero_add, Int.cast_ofNat_Int, Int.reduceLT, Int.reduceLE, Int.reduceEq]))
            exact Fin.all hle ⟨rfl, hJx _⟩
          · repeat' (first | ((first | refine Need.mk (by first | (first | omega | (simp only [decide_eq_true_eq, decide_eq_false_iff_not, Bool.and_eq_true, Bool.not_eq_true', Bool.not_eq_false', List.length_map] at *; omega) | (simp; omega)) | (constructor <;> (first | omega | (simp only [decide_eq_true_eq, decide_eq_false_iff_not, Bool.and_eq_true, Bool.not_eq_true', Bool.not_eq_false', List.length_map] at *; omega) | (simp; omega)))) (Elem.recs hga (by first | (rw [dscv_eq]; exact ⟨rfl, rfl⟩) | exact ⟨rfl, rfl⟩) ?_) | refine Elem.recs hga (by first | (rw [dscv_eq]; exact ⟨rfl, rfl⟩) | exact ⟨rfl, rfl⟩) ?_); simp only [dscv_eq, k1, aw21, aw20, List.take_succ_cons, List.take_zero, List.drop_zero, List.drop_succ_cons, List.length_map, ↓awD, awP, Nat.reduceLeDiff, Nat.reduceEqDiff, Nat.reduceAdd, Nat.zero_add, Int.cast_ofNat_Int, Int.reduceLT, Int.reduceLE, Int.reduceEq]) | (refine BrF.mk (fun hb => ?_) (fun hb => ?_) <;> (try rw [hb]) <;> simp only [k1, aw21, aw20, List.take_succ_cons, List.take_zero, List.drop_zero, List.drop_succ_cons, List.length_map, ↓awD, awP, Nat.reduceLeDiff, Nat.reduceEqDiff, Nat.reduceAdd, Nat.zero_add, Int.cast_ofNat_Int, Int.reduceLT, Int.reduceLE, Int.reduceEq]))
            exact Fin.all hle ⟨rfl, hJx _⟩
        · rw [hrx] at cR
          rw [x2 hrx] at cC
          refine EvF.ret (cR _ (gx _)) ?_
          simp only [g0x, aw20, List.take_succ_cons, List.take_zero, List.drop_zero, List.drop_succ_cons, List.length_map, ↓awD, awP, Nat.reduceLeDiff, Nat.reduceEqDiff, Nat.reduceAdd, Nat.zero_add, Int.cast_ofNat_Int, Int.reduceLT, Int.reduceLE, Int.reduceEq]
          refine EvF.ret (cC _ (gx _)) ?_
          simp only [aw20, List.take_succ_cons, List.take_zero, List.drop_zero, List.drop_succ_cons, List.length_map, ↓awD, awP, Nat.reduceLeDiff, Nat.reduceEqDiff, Nat.reduceAdd, Nat.zero_add, Int.cast_ofNat_Int, Int.reduceLT, Int.reduceLE, Int.reduceEq]
          exact Fin.all hle ⟨rfl, hJx _⟩
end Go.Abs.Fr
