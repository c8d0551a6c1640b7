/- Awake: the document's example. -/
import Derived.Test.YtgbedffflggenaaDoorS18FrM
import Derived.Test.YtgbedffflggenaaDoorAbsZ
set_option linter.all false
namespace Go.Abs.Fr
open Go Go.Abs Go.Proofs
set_option linter.unusedSimpArgs false
set_option maxRecDepth 100000

def ar (n : Nat) (h : n < 100) : Arg := ⟨false, n, ⟨#[]⟩, ⟨by omega, by omega⟩⟩
def L0 : List Fun := [⟨⟨#[116, 48]⟩, [.mk 1 ⟨#[73, 110, 116]⟩ [ar 0 (by decide), ar 7 (by decide)] [] [], .mk 2 ⟨#[116, 49]⟩ [] [] []]⟩]
def L1 : List Fun := [⟨⟨#[102, 111, 114]⟩, []⟩]
theorem L0_ok : okFs L0 = true := by decide +kernel
theorem L1_ok : okFs L1 = false := by decide +kernel
theorem L0_size : szF L0 = 3 := by decide +kernel
theorem L0_w : wF L0 = 12 := by decide +kernel
theorem L0_text : funsT L0 = [102, 117, 110, 99, 32, 116, 48, 40, 99, 32, 42, 67, 41, 32, 123, 10, 9, 99, 46, 73, 110, 116, 40, 48, 44, 32, 55, 41, 10, 9, 116, 49, 40, 99, 41, 10, 125, 10] := by
  have h0 : Lib.itoa 0 = [48] := by decide +kernel
  have h7 : Lib.itoa 7 = [55] := by decide +kernel
  simp [funsT, funT, L0, stmtsT, stmtT, headT, callT, argsT, argt, ar, lineT, h0, h7, Lib.join, Stmt.op, Stmt.name, Stmt.args]

theorem awake_ev (h : List AObj) : EvR E0 7 [] h (boolv true) := by
  refine ev_of (fn := Tryd.f7) (hs := []) Tryd.func7 c7 (by simp) fun hcl => ?_
  simp only [ac7, ne_eq, not_false_eq_true, Option.map_some, Option.map_none, List.map_cons, List.map_nil, Bool.not_true, Bool.not_false, decide_true, decide_false, List.getElem?_cons_zero, List.getElem?_cons_succ, ↓aw1, ↓aw2, ↓aw17, aw3, aw4, aw5, aw6, aw7, aw8, aw9, aw10, aw11, aw12, aw13, aw14, aw15, aw16, aw19, Nat.reduceLeDiff, if_true, if_false, Nat.reduceEqDiff, Nat.reduceAdd, beq_self_eq_true, beq_true, beq_false, Bool.false_eq_true]
  repeat (refine Need.mk ⟨rfl, by decide, by decide, fun p hp => by (simp only [List.mem_cons, List.not_mem_nil, or_false] at hp; first | (subst hp; exact ⟨rfl, rfl, rfl⟩) | (rcases hp with rfl | rfl <;> exact ⟨rfl, rfl, rfl⟩))⟩ ?_; simp only [ne_eq, not_false_eq_true, Option.map_some, Option.map_none, List.map_cons, List.map_nil, Bool.not_true, Bool.not_false, decide_true, decide_false, List.getElem?_cons_zero, List.getElem?_cons_succ, ↓aw1, ↓aw2, ↓aw17, aw3, aw4, aw5, aw6, aw7, aw8, aw9, aw10, aw11, aw12, aw13, aw14, aw15, aw16, aw19, Nat.reduceLeDiff, if_true, if_false, Nat.reduceEqDiff, Nat.reduceAdd, beq_self_eq_true, beq_true, beq_false, Bool.false_eq_true])
  have ht : textT L0 = [102, 117, 110, 99, 32, 116, 48, 40, 99, 32, 42, 67, 41, 32, 123, 10, 9, 99, 46, 73, 110, 116, 40, 48, 44, 32, 55, 41, 10, 9, 116, 49, 40, 99, 41, 10, 125, 10] := by unfold textT; rw [L0_ok, if_pos rfl, L0_text]
  refine EvF.ret ((shaped_ev L0 (by rw [L0_w]; decide) h).high rfl) ?_
  simp only [L0_ok, ne_eq, not_false_eq_true, Option.map_some, Option.map_none, List.map_cons, List.map_nil, Bool.not_true, Bool.not_false, decide_true, decide_false, List.getElem?_cons_zero, List.getElem?_cons_succ, ↓aw1, ↓aw2, ↓aw17, aw3, aw4, aw5, aw6, aw7, aw8, aw9, aw10, aw11, aw12, aw13, aw14, aw15, aw16, aw19, Nat.reduceLeDiff, if_true, if_false, Nat.reduceEqDiff, Nat.reduceAdd, beq_self_eq_true, beq_true, beq_false, Bool.false_eq_true]
  refine EvF.ret ((text_ev L0 (by rw [L0_w]; decide) (by rw [L0_text]; decide) h).high rfl) ?_
  rw [ht]
  simp only [ne_eq, not_false_eq_true, Option.map_some, Option.map_none, List.map_cons, List.map_nil, Bool.not_true, Bool.not_false, decide_true, decide_false, List.getElem?_cons_zero, List.getElem?_cons_succ, ↓aw1, ↓aw2, ↓aw17, aw3, aw4, aw5, aw6, aw7, aw8, aw9, aw10, aw11, aw12, aw13, aw14, aw15, aw16, aw19, Nat.reduceLeDiff, if_true, if_false, Nat.reduceEqDiff, Nat.reduceAdd, beq_self_eq_true, beq_true, beq_false, Bool.false_eq_true]
  refine EvF.ret ((fsize_ev L0 (by rw [L0_size]; decide) h).high rfl) ?_
  rw [L0_size]
  have d3 : decide (((3 : Nat) : Int) = 3) = true := by decide
  simp only [d3, ne_eq, not_false_eq_true, Option.map_some, Option.map_none, List.map_cons, List.map_nil, Bool.not_true, Bool.not_false, decide_true, decide_false, List.getElem?_cons_zero, List.getElem?_cons_succ, ↓aw1, ↓aw2, ↓aw17, aw3, aw4, aw5, aw6, aw7, aw8, aw9, aw10, aw11, aw12, aw13, aw14, aw15, aw16, aw19, Nat.reduceLeDiff, if_true, if_false, Nat.reduceEqDiff, Nat.reduceAdd, beq_self_eq_true, beq_true, beq_false, Bool.false_eq_true]
  repeat (refine Need.mk ⟨rfl, by decide, by decide, fun p hp => by (simp only [List.mem_cons, List.not_mem_nil, or_false] at hp; first | (subst hp; exact ⟨rfl, rfl, rfl⟩) | (rcases hp with rfl | rfl <;> exact ⟨rfl, rfl, rfl⟩))⟩ ?_; simp only [ne_eq, not_false_eq_true, Option.map_some, Option.map_none, List.map_cons, List.map_nil, Bool.not_true, Bool.not_false, decide_true, decide_false, List.getElem?_cons_zero, List.getElem?_cons_succ, ↓aw1, ↓aw2, ↓aw17, aw3, aw4, aw5, aw6, aw7, aw8, aw9, aw10, aw11, aw12, aw13, aw14, aw15, aw16, aw19, Nat.reduceLeDiff, if_true, if_false, Nat.reduceEqDiff, Nat.reduceAdd, beq_self_eq_true, beq_true, beq_false, Bool.false_eq_true])
  refine EvF.ret ((shaped_ev L1 (by decide +kernel) h).high rfl) ?_
  simp only [L1_ok, ne_eq, not_false_eq_true, Option.map_some, Option.map_none, List.map_cons, List.map_nil, Bool.not_true, Bool.not_false, decide_true, decide_false, List.getElem?_cons_zero, List.getElem?_cons_succ, ↓aw1, ↓aw2, ↓aw17, aw3, aw4, aw5, aw6, aw7, aw8, aw9, aw10, aw11, aw12, aw13, aw14, aw15, aw16, aw19, Nat.reduceLeDiff, if_true, if_false, Nat.reduceEqDiff, Nat.reduceAdd, beq_self_eq_true, beq_true, beq_false, Bool.false_eq_true]
  exact Fin.same0 hcl rfl ⟨rfl, rfl⟩
end Go.Abs.Fr

namespace Go.Abs.Fr
open Go Go.Abs Go.Proofs
set_option linter.unusedSimpArgs false
set_option maxRecDepth 100000

theorem callT_len (s : Stmt) : (callT s).length ≤ 4 + s.name.size + 23 * wA s.args := by
  have h := argsT_len s.args
  have h2 : s.name.data.toList.length = s.name.size := by simp
  simp only [callT, List.length_append, List.length_cons, List.length_nil]
  omega
theorem headT_len (s : Stmt) : (headT s).flatten.length ≤ 10 + s.name.size + 23 * wA s.args := by
  have h := callT_len s
  have h2 : s.name.data.toList.length = s.name.size := by simp
  unfold headT
  repeat' split
  all_goals simp only [List.flatten_cons, List.flatten_nil, List.length_append, List.length_cons, List.length_nil]; omega
mutual
theorem stmtT_len : ∀ (s : Stmt) (t : Nat), t + szS s ≤ 8192 → (stmtT t s).length ≤ 30000 * wS s
  | .mk o n a th el, t, h => by
    simp only [szS] at h
    have h1 := stmtsT_len th (t + 1) (by omega)
    have h2 := stmtsT_len el (t + 1) (by omega)
    have h3 := headT_len (.mk o n a th el)
    simp only [Stmt.name, Stmt.args] at h3
    simp only [stmtT, wS, List.length_append, lineT_len]
    repeat' split
    all_goals simp only [List.flatten_cons, List.flatten_nil, List.length_append, lineT_len, List.length_cons, List.length_nil]; omega
theorem stmtsT_len : ∀ (l : List Stmt) (t : Nat), t + szL l ≤ 8192 → (stmtsT t l).length ≤ 30000 * wL l
  | [], t, h => by simp [stmtsT]
  | s :: l, t, h => by
    simp only [szL] at h
    have h1 := stmtT_len s t (by omega)
    have h2 := stmtsT_len l t (by omega)
    simp only [stmtsT, wL, List.length_append]; omega
end
theorem funsT_len : ∀ (l : List Fun), 1 + szF l ≤ 8192 → (funsT l).length ≤ 30000 * wF l
  | [], _ => by simp [funsT]
  | f :: l, h => by
    simp only [szF] at h
    have h1 := stmtsT_len f.body 1 (by omega)
    have h2 := funsT_len l (by omega)
    have h3 : f.name.data.toList.length = f.name.size := by simp
    have h4 : funsT (f :: l) = funT f ++ funsT l := rfl
    rw [h4]
    simp only [funT, wF, List.length_append, lineT_len, List.flatten_cons, List.flatten_nil, List.length_cons, List.length_nil]; omega

theorem few_w {l : List Fun} {n : Int} (h : 0 ≤ fewF l n) : (wF l : Int) ≤ n := by have := fewF_w l n h; omega

theorem texts_ev (l : List Fun) (hmx : mxF l ≤ 2 ^ 48) (h : List AObj) : EvR E0 3 [funsv l] h (boolv true) := by
  refine ev_of (fn := Tryd.f3) (hs := []) Tryd.func3 c3 (by simp) fun hcl => ?_
  simp only [ac3, ne_eq, not_false_eq_true, Option.map_some, Option.map_none, List.map_cons, List.map_nil, Bool.not_true, Bool.not_false, decide_true, decide_false, List.getElem?_cons_zero, List.getElem?_cons_succ, ↓aw1, ↓aw2, ↓aw17, aw3, aw4, aw5, aw6, aw7, aw8, aw9, aw10, aw11, aw12, aw13, aw14, aw15, aw16, aw19, Nat.reduceLeDiff, if_true, if_false, Nat.reduceEqDiff, Nat.reduceAdd, beq_self_eq_true, beq_true, beq_false, Bool.false_eq_true]
  refine EvF.ret (awake_ev h) ?_
  simp only [ne_eq, not_false_eq_true, Option.map_some, Option.map_none, List.map_cons, List.map_nil, Bool.not_true, Bool.not_false, decide_true, decide_false, List.getElem?_cons_zero, List.getElem?_cons_succ, ↓aw1, ↓aw2, ↓aw17, aw3, aw4, aw5, aw6, aw7, aw8, aw9, aw10, aw11, aw12, aw13, aw14, aw15, aw16, aw19, Nat.reduceLeDiff, if_true, if_false, Nat.reduceEqDiff, Nat.reduceAdd, beq_self_eq_true, beq_true, beq_false, Bool.false_eq_true]
  refine EvF.ret (isfew_ev l hmx 3000 (by decide) (by decide) h) ?_
  cases h0 : decide ((0 : Int) ≤ fewF l 3000)
  · simp only [ne_eq, not_false_eq_true, Option.map_some, Option.map_none, List.map_cons, List.map_nil, Bool.not_true, Bool.not_false, decide_true, decide_false, List.getElem?_cons_zero, List.getElem?_cons_succ, ↓aw1, ↓aw2, ↓aw17, aw3, aw4, aw5, aw6, aw7, aw8, aw9, aw10, aw11, aw12, aw13, aw14, aw15, aw16, aw19, Nat.reduceLeDiff, if_true, if_false, Nat.reduceEqDiff, Nat.reduceAdd, beq_self_eq_true, beq_true, beq_false, Bool.false_eq_true]
    exact Fin.same0 hcl rfl ⟨rfl, rfl⟩
  · rw [decide_eq_true_eq] at h0
    have hw := few_w h0
    have hsz := szF_wF l
    have hlen := funsT_len l (by omega)
    simp only [ne_eq, not_false_eq_true, Option.map_some, Option.map_none, List.map_cons, List.map_nil, Bool.not_true, Bool.not_false, decide_true, decide_false, List.getElem?_cons_zero, List.getElem?_cons_succ, ↓aw1, ↓aw2, ↓aw17, aw3, aw4, aw5, aw6, aw7, aw8, aw9, aw10, aw11, aw12, aw13, aw14, aw15, aw16, aw19, Nat.reduceLeDiff, if_true, if_false, Nat.reduceEqDiff, Nat.reduceAdd, beq_self_eq_true, beq_true, beq_false, Bool.false_eq_true]
    refine EvF.ret (shaped_ev l (by omega) h) ?_
    simp only [ne_eq, not_false_eq_true, Option.map_some, Option.map_none, List.map_cons, List.map_nil, Bool.not_true, Bool.not_false, decide_true, decide_false, List.getElem?_cons_zero, List.getElem?_cons_succ, ↓aw1, ↓aw2, ↓aw17, aw3, aw4, aw5, aw6, aw7, aw8, aw9, aw10, aw11, aw12, aw13, aw14, aw15, aw16, aw19, Nat.reduceLeDiff, if_true, if_false, Nat.reduceEqDiff, Nat.reduceAdd, beq_self_eq_true, beq_true, beq_false, Bool.false_eq_true]
    refine EvF.ret (rshaped_ev l (by omega) h) ?_
    cases hs : okFs l
    all_goals
      simp only [ne_eq, not_false_eq_true, Option.map_some, Option.map_none, List.map_cons, List.map_nil, Bool.not_true, Bool.not_false, decide_true, decide_false, List.getElem?_cons_zero, List.getElem?_cons_succ, ↓aw1, ↓aw2, ↓aw17, aw3, aw4, aw5, aw6, aw7, aw8, aw9, aw10, aw11, aw12, aw13, aw14, aw15, aw16, aw19, Nat.reduceLeDiff, if_true, if_false, Nat.reduceEqDiff, Nat.reduceAdd, beq_self_eq_true, beq_true, beq_false, Bool.false_eq_true]
      refine EvF.ret (text_ev l (by omega) (by omega) h) ?_
      simp only [ne_eq, not_false_eq_true, Option.map_some, Option.map_none, List.map_cons, List.map_nil, Bool.not_true, Bool.not_false, decide_true, decide_false, List.getElem?_cons_zero, List.getElem?_cons_succ, ↓aw1, ↓aw2, ↓aw17, aw3, aw4, aw5, aw6, aw7, aw8, aw9, aw10, aw11, aw12, aw13, aw14, aw15, aw16, aw19, Nat.reduceLeDiff, if_true, if_false, Nat.reduceEqDiff, Nat.reduceAdd, beq_self_eq_true, beq_true, beq_false, Bool.false_eq_true]
      refine EvF.ret (rtext_ev l (by omega) (by omega) h) ?_
      simp only [ne_eq, not_false_eq_true, Option.map_some, Option.map_none, List.map_cons, List.map_nil, Bool.not_true, Bool.not_false, decide_true, decide_false, List.getElem?_cons_zero, List.getElem?_cons_succ, ↓aw1, ↓aw2, ↓aw17, aw3, aw4, aw5, aw6, aw7, aw8, aw9, aw10, aw11, aw12, aw13, aw14, aw15, aw16, aw19, Nat.reduceLeDiff, if_true, if_false, Nat.reduceEqDiff, Nat.reduceAdd, beq_self_eq_true, beq_true, beq_false, Bool.false_eq_true]
      refine EvF.ret (fsize_ev l (by omega) h) ?_
      simp only [ne_eq, not_false_eq_true, Option.map_some, Option.map_none, List.map_cons, List.map_nil, Bool.not_true, Bool.not_false, decide_true, decide_false, List.getElem?_cons_zero, List.getElem?_cons_succ, ↓aw1, ↓aw2, ↓aw17, aw3, aw4, aw5, aw6, aw7, aw8, aw9, aw10, aw11, aw12, aw13, aw14, aw15, aw16, aw19, Nat.reduceLeDiff, if_true, if_false, Nat.reduceEqDiff, Nat.reduceAdd, beq_self_eq_true, beq_true, beq_false, Bool.false_eq_true]
      refine EvF.ret (rfsize_ev l (by omega) h) ?_
      simp only [ne_eq, not_false_eq_true, Option.map_some, Option.map_none, List.map_cons, List.map_nil, Bool.not_true, Bool.not_false, decide_true, decide_false, List.getElem?_cons_zero, List.getElem?_cons_succ, ↓aw1, ↓aw2, ↓aw17, aw3, aw4, aw5, aw6, aw7, aw8, aw9, aw10, aw11, aw12, aw13, aw14, aw15, aw16, aw19, Nat.reduceLeDiff, if_true, if_false, Nat.reduceEqDiff, Nat.reduceAdd, beq_self_eq_true, beq_true, beq_false, Bool.false_eq_true]
      exact Fin.same0 hcl rfl ⟨rfl, rfl⟩
end Go.Abs.Fr
