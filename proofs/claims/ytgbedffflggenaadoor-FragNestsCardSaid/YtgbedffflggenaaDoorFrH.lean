/- FragLines' law: its function answers true. -/
import Derived.Test.YtgbedffflggenaaDoorFrJ
set_option linter.all false
namespace Go.Abs.Fr
open Go Go.Abs Go.Proofs
set_option linter.unusedSimpArgs false
set_option maxRecDepth 100000

theorem nl_take (l : List UInt8) (i : Nat) (c : UInt8) (h : l[i]? = some c) : nl (l.take (i + 1)) = nl (l.take i) + (if isC 10 c then 1 else 0) := by
  obtain ⟨hi, he⟩ := List.getElem?_eq_some_iff.1 h
  rw [List.take_succ_eq_append_getElem hi, he, nl_append]
  congr 1
  unfold nl
  rw [List.countP_singleton]
theorem nl_take_le (l : List UInt8) (i : Nat) : nl (l.take i) ≤ l.length := Nat.le_trans List.countP_le_length (by simp; omega)

theorem low_args (l : List Arg) : (l.map argv).map AV.low = l.map argv := by
  rw [List.map_map]; exact List.map_congr_left fun a _ => rfl
mutual
theorem low_stmt : ∀ (s : Stmt), (stmtv s).low = stmtv s
  | .mk o n a t e => by
    have h1 := low_stmts t
    have h2 := low_stmts e
    simp only [stmtv, AV.low, lows, lows_map, low_args]
    rw [lows_map] at h1 h2
    rw [h1, h2]
theorem low_stmts : ∀ (l : List Stmt), lows (stmtsv l) = stmtsv l
  | [] => by simp only [stmtsv, lows]
  | s :: l => by simp only [stmtsv, lows, low_stmt s, low_stmts l]
end
theorem low_funv (f : Fun) : (funv f).low = funv f := by
  have := low_stmts f.body
  rw [stmtsv_map] at this
  simp only [funv, AV.low, lows, this]
theorem low_funs (l : List Fun) : (l.map funv).map AV.low = l.map funv := by
  rw [List.map_map]; exact List.map_congr_left fun a _ => low_funv a
theorem wF_append : ∀ (a b : List Fun), wF (a ++ b) = wF a + wF b
  | [], b => by simp [wF]
  | f :: a, b => by simp only [List.cons_append, wF, wF_append a b]; omega

set_option maxHeartbeats 2000000 in
theorem lines4_ev (a b : List Fun) (hma : mxF a ≤ 2 ^ 48) (hmb : mxF b ≤ 2 ^ 48) (h : List AObj) : EvR E0 4 [funsv a, funsv b] h (boolv true) := by
  refine ev_of (fn := Tryd.f4) (hs := []) Tryd.func4 c4 (by simp) fun hcl => ?_
  have hla := mxF_len a
  have hlb := mxF_len b
  simp only [ac4, ne_eq, not_false_eq_true, Option.map_some, Option.map_none, List.map_cons, List.map_nil, Bool.not_true, Bool.not_false, decide_true, decide_false, List.getElem?_cons_zero, List.getElem?_cons_succ, ↓aw1, ↓aw2, ↓aw17, aw3, aw4, aw5, aw6, aw7, aw8, aw9, aw10, aw11, aw12, aw13, aw14, aw15, aw16, aw19, Nat.reduceLeDiff, if_true, if_false, Nat.reduceEqDiff, Nat.reduceAdd, beq_self_eq_true, beq_true, beq_false, Bool.false_eq_true]
  refine EvF.ret (awake_ev h) ?_
  simp only [ne_eq, not_false_eq_true, Option.map_some, Option.map_none, List.map_cons, List.map_nil, Bool.not_true, Bool.not_false, decide_true, decide_false, List.getElem?_cons_zero, List.getElem?_cons_succ, ↓aw1, ↓aw2, ↓aw17, aw3, aw4, aw5, aw6, aw7, aw8, aw9, aw10, aw11, aw12, aw13, aw14, aw15, aw16, aw19, Nat.reduceLeDiff, if_true, if_false, Nat.reduceEqDiff, Nat.reduceAdd, beq_self_eq_true, beq_true, beq_false, Bool.false_eq_true]
  refine EvF.ret (isfew_ev a hma 2000 (by decide) (by decide) h) ?_
  cases h0 : decide ((0 : Int) ≤ fewF a 2000)
  · simp only [ne_eq, not_false_eq_true, Option.map_some, Option.map_none, List.map_cons, List.map_nil, Bool.not_true, Bool.not_false, decide_true, decide_false, List.getElem?_cons_zero, List.getElem?_cons_succ, ↓aw1, ↓aw2, ↓aw17, aw3, aw4, aw5, aw6, aw7, aw8, aw9, aw10, aw11, aw12, aw13, aw14, aw15, aw16, aw19, Nat.reduceLeDiff, if_true, if_false, Nat.reduceEqDiff, Nat.reduceAdd, beq_self_eq_true, beq_true, beq_false, Bool.false_eq_true]
    exact Fin.same0 hcl rfl ⟨rfl, rfl⟩
  · rw [decide_eq_true_eq] at h0
    have hwa := few_w h0
    have hsza := szF_wF a
    have hlena := funsT_len a (by omega)
    simp only [ne_eq, not_false_eq_true, Option.map_some, Option.map_none, List.map_cons, List.map_nil, Bool.not_true, Bool.not_false, decide_true, decide_false, List.getElem?_cons_zero, List.getElem?_cons_succ, ↓aw1, ↓aw2, ↓aw17, aw3, aw4, aw5, aw6, aw7, aw8, aw9, aw10, aw11, aw12, aw13, aw14, aw15, aw16, aw19, Nat.reduceLeDiff, if_true, if_false, Nat.reduceEqDiff, Nat.reduceAdd, beq_self_eq_true, beq_true, beq_false, Bool.false_eq_true]
    refine EvF.ret (isfew_ev b hmb 2000 (by decide) (by decide) h) ?_
    cases h1 : decide ((0 : Int) ≤ fewF b 2000)
    · simp only [ne_eq, not_false_eq_true, Option.map_some, Option.map_none, List.map_cons, List.map_nil, Bool.not_true, Bool.not_false, decide_true, decide_false, List.getElem?_cons_zero, List.getElem?_cons_succ, ↓aw1, ↓aw2, ↓aw17, aw3, aw4, aw5, aw6, aw7, aw8, aw9, aw10, aw11, aw12, aw13, aw14, aw15, aw16, aw19, Nat.reduceLeDiff, if_true, if_false, Nat.reduceEqDiff, Nat.reduceAdd, beq_self_eq_true, beq_true, beq_false, Bool.false_eq_true]
      exact Fin.same0 hcl rfl ⟨rfl, rfl⟩
    · rw [decide_eq_true_eq] at h1
      have hwb := few_w h1
      have hszb := szF_wF b
      have hlenb := funsT_len b (by omega)
      simp only [ne_eq, not_false_eq_true, Option.map_some, Option.map_none, List.map_cons, List.map_nil, Bool.not_true, Bool.not_false, decide_true, decide_false, List.getElem?_cons_zero, List.getElem?_cons_succ, ↓aw1, ↓aw2, ↓aw17, aw3, aw4, aw5, aw6, aw7, aw8, aw9, aw10, aw11, aw12, aw13, aw14, aw15, aw16, aw19, Nat.reduceLeDiff, if_true, if_false, Nat.reduceEqDiff, Nat.reduceAdd, beq_self_eq_true, beq_true, beq_false, Bool.false_eq_true]
      refine EvF.ret (shaped_ev a (by omega) h) ?_
      cases hsa : okFs a
      · simp only [ne_eq, not_false_eq_true, Option.map_some, Option.map_none, List.map_cons, List.map_nil, Bool.not_true, Bool.not_false, decide_true, decide_false, List.getElem?_cons_zero, List.getElem?_cons_succ, ↓aw1, ↓aw2, ↓aw17, aw3, aw4, aw5, aw6, aw7, aw8, aw9, aw10, aw11, aw12, aw13, aw14, aw15, aw16, aw19, Nat.reduceLeDiff, if_true, if_false, Nat.reduceEqDiff, Nat.reduceAdd, beq_self_eq_true, beq_true, beq_false, Bool.false_eq_true]
        exact Fin.same0 hcl rfl ⟨rfl, rfl⟩
      · simp only [ne_eq, not_false_eq_true, Option.map_some, Option.map_none, List.map_cons, List.map_nil, Bool.not_true, Bool.not_false, decide_true, decide_false, List.getElem?_cons_zero, List.getElem?_cons_succ, ↓aw1, ↓aw2, ↓aw17, aw3, aw4, aw5, aw6, aw7, aw8, aw9, aw10, aw11, aw12, aw13, aw14, aw15, aw16, aw19, Nat.reduceLeDiff, if_true, if_false, Nat.reduceEqDiff, Nat.reduceAdd, beq_self_eq_true, beq_true, beq_false, Bool.false_eq_true]
        refine EvF.ret (shaped_ev b (by omega) h) ?_
        cases hsb : okFs b
        · simp only [ne_eq, not_false_eq_true, Option.map_some, Option.map_none, List.map_cons, List.map_nil, Bool.not_true, Bool.not_false, decide_true, decide_false, List.getElem?_cons_zero, List.getElem?_cons_succ, ↓aw1, ↓aw2, ↓aw17, aw3, aw4, aw5, aw6, aw7, aw8, aw9, aw10, aw11, aw12, aw13, aw14, aw15, aw16, aw19, Nat.reduceLeDiff, if_true, if_false, Nat.reduceEqDiff, Nat.reduceAdd, beq_self_eq_true, beq_true, beq_false, Bool.false_eq_true]
          exact Fin.same0 hcl rfl ⟨rfl, rfl⟩
        · have w1 : IntKind.i64.wrap ((a.length : Int) + (b.length : Int)) = ((a.length + b.length : Nat) : Int) := by rw [wrap_i64] <;> omega
          have d1 : decide ((4096 : Int) < ((a.length + b.length : Nat) : Int)) = decide (4096 < a.length + b.length) := by rw [decide_eq_decide]; omega
          cases d2 : decide (4096 < a.length + b.length)
          · simp only [List.length_map, w1, d1, d2, ne_eq, not_false_eq_true, Option.map_some, Option.map_none, List.map_cons, List.map_nil, Bool.not_true, Bool.not_false, decide_true, decide_false, List.getElem?_cons_zero, List.getElem?_cons_succ, ↓aw1, ↓aw2, ↓aw17, aw3, aw4, aw5, aw6, aw7, aw8, aw9, aw10, aw11, aw12, aw13, aw14, aw15, aw16, aw19, Nat.reduceLeDiff, if_true, if_false, Nat.reduceEqDiff, Nat.reduceAdd, beq_self_eq_true, beq_true, beq_false, Bool.false_eq_true]
            rw [decide_eq_false_iff_not] at d2
            have hnl := nl_funs a (fun f hf => okF_of hsa hf)
            have htx : textT a = funsT a := by simp only [textT, hsa, if_true]
            have htxb : textT b = funsT b := by simp only [textT, hsb, if_true]
            have hab := textT_append hsa hsb (by omega)
            refine EvF.ret (text_ev a (by omega) (by omega) h) ?_
            rw [htx]
            generalize hX : funsT a = X at hnl hlena
            simp only [ne_eq, not_false_eq_true, Option.map_some, Option.map_none, List.map_cons, List.map_nil, Bool.not_true, Bool.not_false, decide_true, decide_false, List.getElem?_cons_zero, List.getElem?_cons_succ, ↓aw1, ↓aw2, ↓aw17, aw3, aw4, aw5, aw6, aw7, aw8, aw9, aw10, aw11, aw12, aw13, aw14, aw15, aw16, aw19, Nat.reduceLeDiff, if_true, if_false, Nat.reduceEqDiff, Nat.reduceAdd, beq_self_eq_true, beq_true, beq_false, Bool.false_eq_true]
            refine LoopF.by (α := Nat) (fun i => ⟨[(0, funsv a), (1, funsv b), (5, boolv true), (6, str ⟨X.toArray⟩), (7, i64 (nl (X.take i))), (8, i64 i)], h⟩) (fun i => X.length - i)
              (fun i => i ≤ X.length) 0 (Nat.zero_le _) (weak_of (by simp) (by simp [look, nl])) ?_
            rintro i hi1
            by_cases hi : i < X.length
            · obtain ⟨c, hc⟩ : ∃ c, X[i]? = some c := ⟨_, List.getElem?_eq_getElem hi⟩
              have e1 : decide ((i : Int) < (X.length : Int)) = true := by rw [decide_eq_true_eq]; omega
              have w3 : IntKind.i64.wrap ((i : Int) + 1) = ((i + 1 : Nat) : Int) := by rw [wrap_i64] <;> omega
              have hn := nl_take X i c hc
              have hnle := nl_take_le X i
              have w4 : IntKind.i64.wrap ((nl (X.take i) : Int) + 1) = ((nl (X.take i) + 1 : Nat) : Int) := by rw [wrap_i64] <;> omega
              simp only [szl, e1, ne_eq, not_false_eq_true, Option.map_some, Option.map_none, List.map_cons, List.map_nil, Bool.not_true, Bool.not_false, decide_true, decide_false, List.getElem?_cons_zero, List.getElem?_cons_succ, ↓aw1, ↓aw2, ↓aw17, aw3, aw4, aw5, aw6, aw7, aw8, aw9, aw10, aw11, aw12, aw13, aw14, aw15, aw16, aw19, Nat.reduceLeDiff, if_true, if_false, Nat.reduceEqDiff, Nat.reduceAdd, beq_self_eq_true, beq_true, beq_false, Bool.false_eq_true]
              refine Need.mk ⟨by omega, by omega⟩ fun c' hc' => ?_
              have : c' = c := by
                rw [bytes_get] at hc'
                exact Option.some.inj (hc'.symm.trans hc)
              subst this
              simp only [ne_eq, not_false_eq_true, Option.map_some, Option.map_none, List.map_cons, List.map_nil, Bool.not_true, Bool.not_false, decide_true, decide_false, List.getElem?_cons_zero, List.getElem?_cons_succ, ↓aw1, ↓aw2, ↓aw17, aw3, aw4, aw5, aw6, aw7, aw8, aw9, aw10, aw11, aw12, aw13, aw14, aw15, aw16, aw19, Nat.reduceLeDiff, if_true, if_false, Nat.reduceEqDiff, Nat.reduceAdd, beq_self_eq_true, beq_true, beq_false, Bool.false_eq_true]
              cases k : isC 10 c'
              · rw [k] at hn
                have k' := k
                unfold isC at k'
                simp only [k', w3, ne_eq, not_false_eq_true, Option.map_some, Option.map_none, List.map_cons, List.map_nil, Bool.not_true, Bool.not_false, decide_true, decide_false, List.getElem?_cons_zero, List.getElem?_cons_succ, ↓aw1, ↓aw2, ↓aw17, aw3, aw4, aw5, aw6, aw7, aw8, aw9, aw10, aw11, aw12, aw13, aw14, aw15, aw16, aw19, Nat.reduceLeDiff, if_true, if_false, Nat.reduceEqDiff, Nat.reduceAdd, beq_self_eq_true, beq_true, beq_false, Bool.false_eq_true]
                exact ⟨i + 1, by omega, by omega, weak_of rfl (by simp [look, hn])⟩
              · rw [k] at hn
                have k' := k
                unfold isC at k'
                simp only [k', w3, w4, ne_eq, not_false_eq_true, Option.map_some, Option.map_none, List.map_cons, List.map_nil, Bool.not_true, Bool.not_false, decide_true, decide_false, List.getElem?_cons_zero, List.getElem?_cons_succ, ↓aw1, ↓aw2, ↓aw17, aw3, aw4, aw5, aw6, aw7, aw8, aw9, aw10, aw11, aw12, aw13, aw14, aw15, aw16, aw19, Nat.reduceLeDiff, if_true, if_false, Nat.reduceEqDiff, Nat.reduceAdd, beq_self_eq_true, beq_true, beq_false, Bool.false_eq_true]
                exact ⟨i + 1, by omega, by omega, weak_of rfl (by simp [look, hn])⟩
            · have e1 : decide ((i : Int) < (X.length : Int)) = false := by rw [decide_eq_false_iff_not]; omega
              rw [List.take_of_length_le (by omega)]
              simp only [szl, e1, ne_eq, not_false_eq_true, Option.map_some, Option.map_none, List.map_cons, List.map_nil, Bool.not_true, Bool.not_false, decide_true, decide_false, List.getElem?_cons_zero, List.getElem?_cons_succ, ↓aw1, ↓aw2, ↓aw17, aw3, aw4, aw5, aw6, aw7, aw8, aw9, aw10, aw11, aw12, aw13, aw14, aw15, aw16, aw19, Nat.reduceLeDiff, if_true, if_false, Nat.reduceEqDiff, Nat.reduceAdd, beq_self_eq_true, beq_true, beq_false, Bool.false_eq_true]
              have w5 : IntKind.i64.wrap ((szF a : Int) + (a.length : Int)) = ((szF a + a.length : Nat) : Int) := by rw [wrap_i64] <;> omega
              have w6 : IntKind.i64.wrap (3 * (szF a : Int)) = ((3 * szF a : Nat) : Int) := by rw [wrap_i64] <;> omega
              have d3 : decide (((szF a + a.length : Nat) : Int) ≤ (nl X : Int)) = true := by rw [decide_eq_true_eq]; omega
              have d4 : decide ((nl X : Int) ≤ ((3 * szF a : Nat) : Int)) = true := by rw [decide_eq_true_eq]; omega
              have wab : wF (a ++ b) = wF a + wF b := wF_append a b
              have hfa : Fit 2 (a.map funv) := by
                intro e he; obtain ⟨c, _, rfl⟩ := List.mem_map.1 he; exact ⟨rfl, rfl⟩
              have hfb : Fit 2 (b.map funv) := by
                intro e he; obtain ⟨c, _, rfl⟩ := List.mem_map.1 he; exact ⟨rfl, rfl⟩
              have hoa : ∀ l : List Fun, allOne (l.map funv) := by
                intro l e he; obtain ⟨c, _, rfl⟩ := List.mem_map.1 he; rfl
              have hlab : (funsT (a ++ b)).length ≤ 140737488355328 := by
                rw [funsT, List.flatMap_append, List.length_append]
                have : (funsT a).length = X.length := by rw [hX]
                show (funsT a).length + (funsT b).length ≤ _
                omega
              refine EvF.ret (fsize_ev a (by omega) h) ?_
              simp only [List.length_map, w5, d3, ne_eq, not_false_eq_true, Option.map_some, Option.map_none, List.map_cons, List.map_nil, Bool.not_true, Bool.not_false, decide_true, decide_false, List.getElem?_cons_zero, List.getElem?_cons_succ, ↓aw1, ↓aw2, ↓aw17, aw3, aw4, aw5, aw6, aw7, aw8, aw9, aw10, aw11, aw12, aw13, aw14, aw15, aw16, aw19, Nat.reduceLeDiff, if_true, if_false, Nat.reduceEqDiff, Nat.reduceAdd, beq_self_eq_true, beq_true, beq_false, Bool.false_eq_true]
              refine EvF.ret (fsize_ev a (by omega) h) ?_
              simp only [List.length_map, w6, d4, ne_eq, not_false_eq_true, Option.map_some, Option.map_none, List.map_cons, List.map_nil, Bool.not_true, Bool.not_false, decide_true, decide_false, List.getElem?_cons_zero, List.getElem?_cons_succ, ↓aw1, ↓aw2, ↓aw17, aw3, aw4, aw5, aw6, aw7, aw8, aw9, aw10, aw11, aw12, aw13, aw14, aw15, aw16, aw19, Nat.reduceLeDiff, if_true, if_false, Nat.reduceEqDiff, Nat.reduceAdd, beq_self_eq_true, beq_true, beq_false, Bool.false_eq_true]
              refine Need.mk ⟨rfl, by decide, by decide, fun p hp => by cases hp⟩ ?_
              simp only [ne_eq, not_false_eq_true, Option.map_some, Option.map_none, List.map_cons, List.map_nil, Bool.not_true, Bool.not_false, decide_true, decide_false, List.getElem?_cons_zero, List.getElem?_cons_succ, ↓aw1, ↓aw2, ↓aw17, aw3, aw4, aw5, aw6, aw7, aw8, aw9, aw10, aw11, aw12, aw13, aw14, aw15, aw16, aw19, Nat.reduceLeDiff, if_true, if_false, Nat.reduceEqDiff, Nat.reduceAdd, beq_self_eq_true, beq_true, beq_false, Bool.false_eq_true]
              refine Need.mk ⟨by decide, .inr (by intro e he; cases he), hfa, hoa a, by simp; omega, by simp; omega⟩ ?_
              simp only [ne_eq, not_false_eq_true, Option.map_some, Option.map_none, List.map_cons, List.map_nil, Bool.not_true, Bool.not_false, decide_true, decide_false, List.getElem?_cons_zero, List.getElem?_cons_succ, ↓aw1, ↓aw2, ↓aw17, aw3, aw4, aw5, aw6, aw7, aw8, aw9, aw10, aw11, aw12, aw13, aw14, aw15, aw16, aw19, Nat.reduceLeDiff, if_true, if_false, Nat.reduceEqDiff, Nat.reduceAdd, beq_self_eq_true, beq_true, beq_false, Bool.false_eq_true]
              refine Need.mk ⟨by decide, .inl trivial, hfb, hoa b, by simp; omega, by simp; omega⟩ ?_
              simp only [ne_eq, not_false_eq_true, Option.map_some, Option.map_none, List.map_cons, List.map_nil, Bool.not_true, Bool.not_false, decide_true, decide_false, List.getElem?_cons_zero, List.getElem?_cons_succ, ↓aw1, ↓aw2, ↓aw17, aw3, aw4, aw5, aw6, aw7, aw8, aw9, aw10, aw11, aw12, aw13, aw14, aw15, aw16, aw19, Nat.reduceLeDiff, if_true, if_false, Nat.reduceEqDiff, Nat.reduceAdd, beq_self_eq_true, beq_true, beq_false, Bool.false_eq_true]
              refine EvF.ret ((text_ev (a ++ b) (by omega) hlab h).high (by simp only [List.nil_append, List.append_nil, List.cons_append]; show [AV.sl Cap.unk (lows _)] = [_]; rw [lows_map, List.map_append, low_funs, low_funs, ← List.map_append])) ?_
              rw [hab, htx, htxb, hX]
              simp only [ne_eq, not_false_eq_true, Option.map_some, Option.map_none, List.map_cons, List.map_nil, Bool.not_true, Bool.not_false, decide_true, decide_false, List.getElem?_cons_zero, List.getElem?_cons_succ, ↓aw1, ↓aw2, ↓aw17, aw3, aw4, aw5, aw6, aw7, aw8, aw9, aw10, aw11, aw12, aw13, aw14, aw15, aw16, aw19, Nat.reduceLeDiff, if_true, if_false, Nat.reduceEqDiff, Nat.reduceAdd, beq_self_eq_true, beq_true, beq_false, Bool.false_eq_true]
              refine EvF.ret (text_ev b (by omega) (by omega) h) ?_
              rw [htxb]
              simp only [ne_eq, not_false_eq_true, Option.map_some, Option.map_none, List.map_cons, List.map_nil, Bool.not_true, Bool.not_false, decide_true, decide_false, List.getElem?_cons_zero, List.getElem?_cons_succ, ↓aw1, ↓aw2, ↓aw17, aw3, aw4, aw5, aw6, aw7, aw8, aw9, aw10, aw11, aw12, aw13, aw14, aw15, aw16, aw19, Nat.reduceLeDiff, if_true, if_false, Nat.reduceEqDiff, Nat.reduceAdd, beq_self_eq_true, beq_true, beq_false, Bool.false_eq_true]
              refine Need.mk (by simp only [szl]; omega) ?_
              simp only [ba_append, ne_eq, not_false_eq_true, Option.map_some, Option.map_none, List.map_cons, List.map_nil, Bool.not_true, Bool.not_false, decide_true, decide_false, List.getElem?_cons_zero, List.getElem?_cons_succ, ↓aw1, ↓aw2, ↓aw17, aw3, aw4, aw5, aw6, aw7, aw8, aw9, aw10, aw11, aw12, aw13, aw14, aw15, aw16, aw19, Nat.reduceLeDiff, if_true, if_false, Nat.reduceEqDiff, Nat.reduceAdd, beq_self_eq_true, beq_true, beq_false, Bool.false_eq_true]
              exact Fin.same0 hcl rfl ⟨rfl, rfl⟩
          · simp only [List.length_map, w1, d1, d2, ne_eq, not_false_eq_true, Option.map_some, Option.map_none, List.map_cons, List.map_nil, Bool.not_true, Bool.not_false, decide_true, decide_false, List.getElem?_cons_zero, List.getElem?_cons_succ, ↓aw1, ↓aw2, ↓aw17, aw3, aw4, aw5, aw6, aw7, aw8, aw9, aw10, aw11, aw12, aw13, aw14, aw15, aw16, aw19, Nat.reduceLeDiff, if_true, if_false, Nat.reduceEqDiff, Nat.reduceAdd, beq_self_eq_true, beq_true, beq_false, Bool.false_eq_true]
            exact Fin.same0 hcl rfl ⟨rfl, rfl⟩
end Go.Abs.Fr
