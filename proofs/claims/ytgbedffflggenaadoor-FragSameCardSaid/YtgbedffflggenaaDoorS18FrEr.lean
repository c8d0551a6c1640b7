/- Whether two fragments are the same: the document's answer. -/
import Derived.Test.YtgbedffflggenaaDoorS18FrRow
import Derived.Test.YtgbedffflggenaaDoorAbsZl
set_option linter.all false
namespace Go.Abs.Fr
open Go Go.Abs Go.Proofs
set_option linter.unusedSimpArgs false
set_option maxRecDepth 100000

theorem eqS_eq2 (s s' : Stmt) : eqS s s' = (decide (s.op = s'.op) && (decide (s.name = s'.name) && (decide (s.args.length = s'.args.length) && (all2 eqS s.thn s'.thn && (all2 eqS s.els s'.els && all2 eq1 s.args s'.args))))) := by
  rw [eqS_eq]
  by_cases hl : s.args.length = s'.args.length
  · rw [show decide (s.args.length = s'.args.length) = true by simpa using hl, Bool.true_and, Bool.and_comm (all2 eq1 _ _), Bool.and_assoc]
  · rw [all2_len hl, show decide (s.args.length = s'.args.length) = false by simpa using hl]; simp

set_option maxHeartbeats 8000000 in
theorem rsame_step (l r : List Stmt) (hl : mxL l ≤ 2 ^ 48) (hr : mxL r ≤ 2 ^ 48)
    (ih : ∀ a b, a ∈ l → b ∈ r → (∀ h, EvR E0 34 [bodyv a.thn, bodyv b.thn] h (boolv (all2 eqS a.thn b.thn))) ∧ ∀ h, EvR E0 34 [bodyv a.els, bodyv b.els] h (boolv (all2 eqS a.els b.els)))
    (h : List AObj) : EvR E0 34 [bodyv l, bodyv r] h (boolv (all2 eqS l r)) := by
  refine ev_of (fn := Tryd.f34) (hs := []) Tryd.func34 c34 (by simp) fun hcl => ?_
  have hll := mxL_len l
  have hlr := mxL_len r
  generalize hR : all2 eqS l r = R
  have d0 : decide ((l.length : Int) = (r.length : Int)) = decide (l.length = r.length) := by rw [decide_eq_decide]; omega
  cases dl : decide (l.length = r.length)
  · simp only [ac34, List.length_map, d0, dl, ne_eq, not_false_eq_true, Option.map_some, Option.map_none, List.map_cons, List.map_nil, Bool.not_true, Bool.not_false, decide_true, decide_false, List.getElem?_cons_zero, List.getElem?_cons_succ, ↓aw1, ↓aw2, ↓aw17, aw3, aw4, aw5, aw6, aw7, aw8, aw9, aw10, aw11, aw12, aw13, aw14, aw15, aw16, aw19, Nat.reduceLeDiff, if_true, if_false, Nat.reduceEqDiff, Nat.reduceAdd, beq_self_eq_true, beq_true, beq_false, Bool.false_eq_true]
    rw [decide_eq_false_iff_not] at dl
    rw [all2_len dl] at hR
    subst hR
    exact Fin.same0 hcl rfl ⟨rfl, rfl⟩
  · simp only [ac34, List.length_map, d0, dl, ne_eq, not_false_eq_true, Option.map_some, Option.map_none, List.map_cons, List.map_nil, Bool.not_true, Bool.not_false, decide_true, decide_false, List.getElem?_cons_zero, List.getElem?_cons_succ, ↓aw1, ↓aw2, ↓aw17, aw3, aw4, aw5, aw6, aw7, aw8, aw9, aw10, aw11, aw12, aw13, aw14, aw15, aw16, aw19, Nat.reduceLeDiff, if_true, if_false, Nat.reduceEqDiff, Nat.reduceAdd, beq_self_eq_true, beq_true, beq_false, Bool.false_eq_true]
    rw [decide_eq_true_eq] at dl
    refine LoopF.by (α := Nat × List AObj) (fun x => ⟨[(0, bodyv l), (1, bodyv r), (5, i64 x.1)], h ++ x.2⟩) (fun x => l.length - x.1)
      (fun x => x.1 ≤ l.length ∧ all2 eqS (l.drop x.1) (r.drop x.1) = R) (0, []) ⟨by omega, by simpa using hR⟩ (weak_of (by simp) (by simp [look])) ?_
    rintro ⟨i, J⟩ ⟨h1, h2⟩
    simp only at h1 h2
    by_cases hi : i < l.length
    · obtain ⟨a, ha⟩ : ∃ a, l[i]? = some a := ⟨_, List.getElem?_eq_getElem hi⟩
      obtain ⟨b, hb⟩ : ∃ b, r[i]? = some b := ⟨_, List.getElem?_eq_getElem (by omega)⟩
      have e1 : decide ((i : Int) < (l.length : Int)) = true := by rw [decide_eq_true_eq]; omega
      have w3 : IntKind.i64.wrap ((i : Int) + 1) = ((i + 1 : Nat) : Int) := by rw [wrap_i64] <;> omega
      have hga := map_get stmtv l i a ha
      have hgb := map_get stmtv r i b hb
      obtain ⟨ihT, ihE⟩ := ih a b (List.mem_of_getElem? ha) (List.mem_of_getElem? hb)
      have m1 := mxL_mem (List.mem_of_getElem? ha)
      have m2 := mxL_mem (List.mem_of_getElem? hb)
      have m3 := mxS_eq a
      have m4 := mxS_eq b
      have l1 := mxA_len a.args
      have l2 := mxA_len b.args
      have d3 : decide ((a.args.length : Int) = (b.args.length : Int)) = decide (a.args.length = b.args.length) := by rw [decide_eq_decide]; omega
      rw [drop_get ha, drop_get hb] at h2
      simp only [all2] at h2
      rw [eqS_eq2] at h2
      simp only [e1, List.length_map, List.take_succ_cons, List.take_zero, List.drop_zero, List.drop_succ_cons, ne_eq, not_false_eq_true, Option.map_some, Option.map_none, List.map_cons, List.map_nil, Bool.not_true, Bool.not_false, decide_true, decide_false, List.getElem?_cons_zero, List.getElem?_cons_succ, ↓aw1, ↓aw2, ↓aw17, aw3, aw4, aw5, aw6, aw7, aw8, aw9, aw10, aw11, aw12, aw13, aw14, aw15, aw16, aw19, Nat.reduceLeDiff, if_true, if_false, Nat.reduceEqDiff, Nat.reduceAdd, beq_self_eq_true, beq_true, beq_false, Bool.false_eq_true]
      repeat' (first
        | (refine Need.mk ⟨by omega, by first | omega | (simp; omega)⟩ (Elem.recs hga (by rw [stmtv_eq]; exact ⟨rfl, rfl⟩) ?_); simp only [stmtv_eq, d3, List.length_map, List.take_succ_cons, List.take_zero, List.drop_zero, List.drop_succ_cons, ne_eq, not_false_eq_true, Option.map_some, Option.map_none, List.map_cons, List.map_nil, Bool.not_true, Bool.not_false, decide_true, decide_false, List.getElem?_cons_zero, List.getElem?_cons_succ, ↓aw1, ↓aw2, ↓aw17, aw3, aw4, aw5, aw6, aw7, aw8, aw9, aw10, aw11, aw12, aw13, aw14, aw15, aw16, aw19, Nat.reduceLeDiff, if_true, if_false, Nat.reduceEqDiff, Nat.reduceAdd, beq_self_eq_true, beq_true, beq_false, Bool.false_eq_true])
        | (refine Need.mk ⟨by omega, by first | omega | (simp; omega)⟩ (Elem.recs hgb (by rw [stmtv_eq]; exact ⟨rfl, rfl⟩) ?_); simp only [stmtv_eq, d3, List.length_map, List.take_succ_cons, List.take_zero, List.drop_zero, List.drop_succ_cons, ne_eq, not_false_eq_true, Option.map_some, Option.map_none, List.map_cons, List.map_nil, Bool.not_true, Bool.not_false, decide_true, decide_false, List.getElem?_cons_zero, List.getElem?_cons_succ, ↓aw1, ↓aw2, ↓aw17, aw3, aw4, aw5, aw6, aw7, aw8, aw9, aw10, aw11, aw12, aw13, aw14, aw15, aw16, aw19, Nat.reduceLeDiff, if_true, if_false, Nat.reduceEqDiff, Nat.reduceAdd, beq_self_eq_true, beq_true, beq_false, Bool.false_eq_true])
        | (refine EvRF.ret (ihT _) ?_; simp only [List.length_map, ne_eq, not_false_eq_true, Option.map_some, Option.map_none, List.map_cons, List.map_nil, Bool.not_true, Bool.not_false, decide_true, decide_false, List.getElem?_cons_zero, List.getElem?_cons_succ, ↓aw1, ↓aw2, ↓aw17, aw3, aw4, aw5, aw6, aw7, aw8, aw9, aw10, aw11, aw12, aw13, aw14, aw15, aw16, aw19, Nat.reduceLeDiff, if_true, if_false, Nat.reduceEqDiff, Nat.reduceAdd, beq_self_eq_true, beq_true, beq_false, Bool.false_eq_true])
        | (refine EvRF.ret (ihE _) ?_; simp only [List.length_map, ne_eq, not_false_eq_true, Option.map_some, Option.map_none, List.map_cons, List.map_nil, Bool.not_true, Bool.not_false, decide_true, decide_false, List.getElem?_cons_zero, List.getElem?_cons_succ, ↓aw1, ↓aw2, ↓aw17, aw3, aw4, aw5, aw6, aw7, aw8, aw9, aw10, aw11, aw12, aw13, aw14, aw15, aw16, aw19, Nat.reduceLeDiff, if_true, if_false, Nat.reduceEqDiff, Nat.reduceAdd, beq_self_eq_true, beq_true, beq_false, Bool.false_eq_true])
        | (simp only [aw21])
        | (refine BrF.mk (fun hb => ?_) (fun hb => ?_) <;> (try rw [hb]) <;> simp only [d3, List.length_map, List.take_succ_cons, List.take_zero, List.drop_zero, List.drop_succ_cons, ne_eq, not_false_eq_true, Option.map_some, Option.map_none, List.map_cons, List.map_nil, Bool.not_true, Bool.not_false, decide_true, decide_false, List.getElem?_cons_zero, List.getElem?_cons_succ, ↓aw1, ↓aw2, ↓aw17, aw3, aw4, aw5, aw6, aw7, aw8, aw9, aw10, aw11, aw12, aw13, aw14, aw15, aw16, aw19, Nat.reduceLeDiff, if_true, if_false, Nat.reduceEqDiff, Nat.reduceAdd, beq_self_eq_true, beq_true, beq_false, Bool.false_eq_true]))
      any_goals (simp [*] at h2; subst h2; exact Fin.end hcl rfl rfl ⟨rfl, rfl⟩)
      rename_i n1 n2 n3 n4; have n5 := hb
      simp only [n1, n2, n3, n4, n5, Bool.true_and] at h2
      rw [decide_eq_true_eq] at n3
      refine LoopF.by (α := Nat × List AObj) (fun x => ⟨[(0, bodyv l), (1, bodyv r), (5, i64 i), (6, i64 x.1)], h ++ x.2⟩) (fun x => a.args.length - x.1)
        (fun x => x.1 ≤ a.args.length ∧ (all2 eq1 (a.args.drop x.1) (b.args.drop x.1) && all2 eqS (l.drop (i + 1)) (r.drop (i + 1))) = R) (0, J) ⟨by omega, by simpa using h2⟩ (weak_of (by simp) (by simp [look])) ?_
      rintro ⟨j, J'⟩ ⟨g1, g2⟩
      simp only at g1 g2
      by_cases hj : j < a.args.length
      · obtain ⟨u, hu⟩ : ∃ u, a.args[j]? = some u := ⟨_, List.getElem?_eq_getElem hj⟩
        obtain ⟨v, hv⟩ : ∃ v, b.args[j]? = some v := ⟨_, List.getElem?_eq_getElem (by omega)⟩
        have f1 : decide ((j : Int) < (a.args.length : Int)) = true := by rw [decide_eq_true_eq]; omega
        have w4 : IntKind.i64.wrap ((j : Int) + 1) = ((j + 1 : Nat) : Int) := by rw [wrap_i64] <;> omega
        have hgu := map_get argv a.args j u hu
        have hgv := map_get argv b.args j v hv
        rw [drop_get hu, drop_get hv] at g2
        simp only [all2, eq1, Bool.and_true] at g2
        simp only [List.length_map, List.take_succ_cons, List.take_zero, List.drop_zero, List.drop_succ_cons, ne_eq, not_false_eq_true, Option.map_some, Option.map_none, List.map_cons, List.map_nil, Bool.not_true, Bool.not_false, decide_true, decide_false, List.getElem?_cons_zero, List.getElem?_cons_succ, ↓aw1, ↓aw2, ↓aw17, aw3, aw4, aw5, aw6, aw7, aw8, aw9, aw10, aw11, aw12, aw13, aw14, aw15, aw16, aw19, Nat.reduceLeDiff, if_true, if_false, Nat.reduceEqDiff, Nat.reduceAdd, beq_self_eq_true, beq_true, beq_false, Bool.false_eq_true]
        repeat' (first
          | (refine Need.mk ⟨by omega, by first | omega | (simp; omega)⟩ (Elem.recs hga (by rw [stmtv_eq]; exact ⟨rfl, rfl⟩) ?_); simp only [stmtv_eq, f1, List.length_map, List.take_succ_cons, List.take_zero, List.drop_zero, List.drop_succ_cons, ne_eq, not_false_eq_true, Option.map_some, Option.map_none, List.map_cons, List.map_nil, Bool.not_true, Bool.not_false, decide_true, decide_false, List.getElem?_cons_zero, List.getElem?_cons_succ, ↓aw1, ↓aw2, ↓aw17, aw3, aw4, aw5, aw6, aw7, aw8, aw9, aw10, aw11, aw12, aw13, aw14, aw15, aw16, aw19, Nat.reduceLeDiff, if_true, if_false, Nat.reduceEqDiff, Nat.reduceAdd, beq_self_eq_true, beq_true, beq_false, Bool.false_eq_true])
          | (refine Need.mk ⟨by omega, by first | omega | (simp; omega)⟩ (Elem.recs hgb (by rw [stmtv_eq]; exact ⟨rfl, rfl⟩) ?_); simp only [stmtv_eq, List.length_map, List.take_succ_cons, List.take_zero, List.drop_zero, List.drop_succ_cons, ne_eq, not_false_eq_true, Option.map_some, Option.map_none, List.map_cons, List.map_nil, Bool.not_true, Bool.not_false, decide_true, decide_false, List.getElem?_cons_zero, List.getElem?_cons_succ, ↓aw1, ↓aw2, ↓aw17, aw3, aw4, aw5, aw6, aw7, aw8, aw9, aw10, aw11, aw12, aw13, aw14, aw15, aw16, aw19, Nat.reduceLeDiff, if_true, if_false, Nat.reduceEqDiff, Nat.reduceAdd, beq_self_eq_true, beq_true, beq_false, Bool.false_eq_true])
          | (refine Need.mk ⟨by omega, by first | omega | (simp; omega)⟩ (Elem.recs hgu ⟨rfl, rfl⟩ ?_); simp only [argv, aw20, List.length_map, List.take_succ_cons, List.take_zero, List.drop_zero, List.drop_succ_cons, ne_eq, not_false_eq_true, Option.map_some, Option.map_none, List.map_cons, List.map_nil, Bool.not_true, Bool.not_false, decide_true, decide_false, List.getElem?_cons_zero, List.getElem?_cons_succ, ↓aw1, ↓aw2, ↓aw17, aw3, aw4, aw5, aw6, aw7, aw8, aw9, aw10, aw11, aw12, aw13, aw14, aw15, aw16, aw19, Nat.reduceLeDiff, if_true, if_false, Nat.reduceEqDiff, Nat.reduceAdd, beq_self_eq_true, beq_true, beq_false, Bool.false_eq_true])
          | (refine Need.mk ⟨by omega, by first | omega | (simp; omega)⟩ (Elem.recs hgv ⟨rfl, rfl⟩ ?_); simp only [argv, aw20, List.length_map, List.take_succ_cons, List.take_zero, List.drop_zero, List.drop_succ_cons, ne_eq, not_false_eq_true, Option.map_some, Option.map_none, List.map_cons, List.map_nil, Bool.not_true, Bool.not_false, decide_true, decide_false, List.getElem?_cons_zero, List.getElem?_cons_succ, ↓aw1, ↓aw2, ↓aw17, aw3, aw4, aw5, aw6, aw7, aw8, aw9, aw10, aw11, aw12, aw13, aw14, aw15, aw16, aw19, Nat.reduceLeDiff, if_true, if_false, Nat.reduceEqDiff, Nat.reduceAdd, beq_self_eq_true, beq_true, beq_false, Bool.false_eq_true])
          | (simp only [aw21])
          | (refine BrF.mk (fun hb => ?_) (fun hb => ?_) <;> (try rw [hb]) <;> simp only [w4, aw20, List.length_map, List.take_succ_cons, List.take_zero, List.drop_zero, List.drop_succ_cons, ne_eq, not_false_eq_true, Option.map_some, Option.map_none, List.map_cons, List.map_nil, Bool.not_true, Bool.not_false, decide_true, decide_false, List.getElem?_cons_zero, List.getElem?_cons_succ, ↓aw1, ↓aw2, ↓aw17, aw3, aw4, aw5, aw6, aw7, aw8, aw9, aw10, aw11, aw12, aw13, aw14, aw15, aw16, aw19, Nat.reduceLeDiff, if_true, if_false, Nat.reduceEqDiff, Nat.reduceAdd, beq_self_eq_true, beq_true, beq_false, Bool.false_eq_true]))
        
        any_goals (simp [*] at g2; subst g2; exact Fin.end hcl rfl (by simp only [List.append_assoc]; rfl) ⟨rfl, rfl⟩)
        rename_i k1 k2
        simp only [k1, k2, hb, Bool.true_and] at g2
        exact ⟨(j + 1, J' ++ [_] ++ [_]), ⟨by simp only; omega, g2⟩, by simp only; omega, weak_of (asc3 ..).symm (by simp [look])⟩
      · have f1 : decide ((j : Int) < (a.args.length : Int)) = false := by rw [decide_eq_false_iff_not]; omega
        rw [List.drop_eq_nil_of_le (show a.args.length ≤ j by omega), List.drop_eq_nil_of_le (show b.args.length ≤ j by omega)] at g2
        simp only [all2, Bool.true_and] at g2
        simp only [List.length_map, List.take_succ_cons, List.take_zero, List.drop_zero, List.drop_succ_cons, ne_eq, not_false_eq_true, Option.map_some, Option.map_none, List.map_cons, List.map_nil, Bool.not_true, Bool.not_false, decide_true, decide_false, List.getElem?_cons_zero, List.getElem?_cons_succ, ↓aw1, ↓aw2, ↓aw17, aw3, aw4, aw5, aw6, aw7, aw8, aw9, aw10, aw11, aw12, aw13, aw14, aw15, aw16, aw19, Nat.reduceLeDiff, if_true, if_false, Nat.reduceEqDiff, Nat.reduceAdd, beq_self_eq_true, beq_true, beq_false, Bool.false_eq_true]
        repeat (refine Need.mk ⟨by omega, by first | omega | (simp; omega)⟩ (Elem.recs hga (by rw [stmtv_eq]; exact ⟨rfl, rfl⟩) ?_)
                simp only [stmtv_eq, f1, w3, List.length_map, List.take_succ_cons, List.take_zero, List.drop_zero, List.drop_succ_cons, ne_eq, not_false_eq_true, Option.map_some, Option.map_none, List.map_cons, List.map_nil, Bool.not_true, Bool.not_false, decide_true, decide_false, List.getElem?_cons_zero, List.getElem?_cons_succ, ↓aw1, ↓aw2, ↓aw17, aw3, aw4, aw5, aw6, aw7, aw8, aw9, aw10, aw11, aw12, aw13, aw14, aw15, aw16, aw19, Nat.reduceLeDiff, if_true, if_false, Nat.reduceEqDiff, Nat.reduceAdd, beq_self_eq_true, beq_true, beq_false, Bool.false_eq_true])
        exact ⟨(i + 1, J'), ⟨by simp only; omega, g2⟩, by simp only; omega, weak_of (by simp) (by simp [look])⟩
    · have e1 : decide ((i : Int) < (l.length : Int)) = false := by rw [decide_eq_false_iff_not]; omega
      rw [List.drop_eq_nil_of_le (by omega), List.drop_eq_nil_of_le (by omega)] at h2
      simp only [all2] at h2
      subst h2
      simp only [e1, List.length_map, ne_eq, not_false_eq_true, Option.map_some, Option.map_none, List.map_cons, List.map_nil, Bool.not_true, Bool.not_false, decide_true, decide_false, List.getElem?_cons_zero, List.getElem?_cons_succ, ↓aw1, ↓aw2, ↓aw17, aw3, aw4, aw5, aw6, aw7, aw8, aw9, aw10, aw11, aw12, aw13, aw14, aw15, aw16, aw19, Nat.reduceLeDiff, if_true, if_false, Nat.reduceEqDiff, Nat.reduceAdd, beq_self_eq_true, beq_true, beq_false, Bool.false_eq_true]
      exact Fin.same hcl rfl ⟨rfl, rfl⟩

theorem rsame_ev : ∀ (k : Nat) (l r : List Stmt), szL l ≤ k → mxL l ≤ 2 ^ 48 → mxL r ≤ 2 ^ 48 → ∀ h, EvR E0 34 [bodyv l, bodyv r] h (boolv (all2 eqS l r)) := by
  intro k
  induction k using Nat.strongRecOn with
  | _ k ih =>
    intro l r hk hl hr h
    refine rsame_step l r hl hr (fun a b ha hb => ?_) h
    have m1 := mxL_mem ha
    have m2 := mxL_mem hb
    have m3 := mxS_eq a
    have m4 := mxS_eq b
    have z1 := szL_mem ha
    have z2 := szS_eq a
    exact ⟨fun h => ih (szL a.thn) (by omega) _ _ (Nat.le_refl _) (by omega) (by omega) h, fun h => ih (szL a.els) (by omega) _ _ (Nat.le_refl _) (by omega) (by omega) h⟩

theorem refsame_ev (l r : List Fun) (hl : mxF l ≤ 2 ^ 48) (hr : mxF r ≤ 2 ^ 48) (h : List AObj) : EvR E0 16 [funsv l, funsv r] h (boolv (all2 eqF l r)) := by
  refine ev_of (fn := Tryd.f16) (hs := []) Tryd.func16 c16 (by simp) fun hcl => ?_
  have hll := mxF_len l
  have hlr := mxF_len r
  generalize hR : all2 eqF l r = R
  have d0 : decide ((l.length : Int) = (r.length : Int)) = decide (l.length = r.length) := by rw [decide_eq_decide]; omega
  cases dl : decide (l.length = r.length)
  · simp only [ac16, List.length_map, d0, dl, ne_eq, not_false_eq_true, Option.map_some, Option.map_none, List.map_cons, List.map_nil, Bool.not_true, Bool.not_false, decide_true, decide_false, List.getElem?_cons_zero, List.getElem?_cons_succ, ↓aw1, ↓aw2, ↓aw17, aw3, aw4, aw5, aw6, aw7, aw8, aw9, aw10, aw11, aw12, aw13, aw14, aw15, aw16, aw19, Nat.reduceLeDiff, if_true, if_false, Nat.reduceEqDiff, Nat.reduceAdd, beq_self_eq_true, beq_true, beq_false, Bool.false_eq_true]
    rw [decide_eq_false_iff_not] at dl
    rw [all2_len dl] at hR
    subst hR
    exact Fin.same0 hcl rfl ⟨rfl, rfl⟩
  · simp only [ac16, List.length_map, d0, dl, ne_eq, not_false_eq_true, Option.map_some, Option.map_none, List.map_cons, List.map_nil, Bool.not_true, Bool.not_false, decide_true, decide_false, List.getElem?_cons_zero, List.getElem?_cons_succ, ↓aw1, ↓aw2, ↓aw17, aw3, aw4, aw5, aw6, aw7, aw8, aw9, aw10, aw11, aw12, aw13, aw14, aw15, aw16, aw19, Nat.reduceLeDiff, if_true, if_false, Nat.reduceEqDiff, Nat.reduceAdd, beq_self_eq_true, beq_true, beq_false, Bool.false_eq_true]
    rw [decide_eq_true_eq] at dl
    refine LoopF.by (α := Nat) (fun x => ⟨[(0, funsv l), (1, funsv r), (5, i64 x)], h⟩) (fun x => l.length - x)
      (fun x => x ≤ l.length ∧ all2 eqF (l.drop x) (r.drop x) = R) 0 ⟨by omega, by simpa using hR⟩ (weak_of (by simp) (by simp [look])) ?_
    rintro i ⟨h1, h2⟩
    by_cases hi : i < l.length
    · obtain ⟨a, ha⟩ : ∃ a, l[i]? = some a := ⟨_, List.getElem?_eq_getElem hi⟩
      obtain ⟨b, hbb⟩ : ∃ b, r[i]? = some b := ⟨_, List.getElem?_eq_getElem (by omega)⟩
      have e1 : decide ((i : Int) < (l.length : Int)) = true := by rw [decide_eq_true_eq]; omega
      have w3 : IntKind.i64.wrap ((i : Int) + 1) = ((i + 1 : Nat) : Int) := by rw [wrap_i64] <;> omega
      have hga := map_get funv l i a ha
      have hgb := map_get funv r i b hbb
      have hs := rsame_ev _ a.body b.body (Nat.le_refl _) (by have := mxF_mem (List.mem_of_getElem? ha); omega) (by have := mxF_mem (List.mem_of_getElem? hbb); omega)
      rw [drop_get ha, drop_get hbb] at h2
      simp only [all2, eqF] at h2
      simp only [e1, List.length_map, List.take_succ_cons, List.take_zero, List.drop_zero, List.drop_succ_cons, ne_eq, not_false_eq_true, Option.map_some, Option.map_none, List.map_cons, List.map_nil, Bool.not_true, Bool.not_false, decide_true, decide_false, List.getElem?_cons_zero, List.getElem?_cons_succ, ↓aw1, ↓aw2, ↓aw17, aw3, aw4, aw5, aw6, aw7, aw8, aw9, aw10, aw11, aw12, aw13, aw14, aw15, aw16, aw19, Nat.reduceLeDiff, if_true, if_false, Nat.reduceEqDiff, Nat.reduceAdd, beq_self_eq_true, beq_true, beq_false, Bool.false_eq_true]
      repeat' (first
        | (refine Need.mk ⟨by omega, by first | omega | (simp; omega)⟩ (Elem.recs hga ⟨rfl, rfl⟩ ?_); simp only [funv, List.length_map, List.take_succ_cons, List.take_zero, List.drop_zero, List.drop_succ_cons, ne_eq, not_false_eq_true, Option.map_some, Option.map_none, List.map_cons, List.map_nil, Bool.not_true, Bool.not_false, decide_true, decide_false, List.getElem?_cons_zero, List.getElem?_cons_succ, ↓aw1, ↓aw2, ↓aw17, aw3, aw4, aw5, aw6, aw7, aw8, aw9, aw10, aw11, aw12, aw13, aw14, aw15, aw16, aw19, Nat.reduceLeDiff, if_true, if_false, Nat.reduceEqDiff, Nat.reduceAdd, beq_self_eq_true, beq_true, beq_false, Bool.false_eq_true])
        | (refine Need.mk ⟨by omega, by first | omega | (simp; omega)⟩ (Elem.recs hgb ⟨rfl, rfl⟩ ?_); simp only [funv, List.length_map, List.take_succ_cons, List.take_zero, List.drop_zero, List.drop_succ_cons, ne_eq, not_false_eq_true, Option.map_some, Option.map_none, List.map_cons, List.map_nil, Bool.not_true, Bool.not_false, decide_true, decide_false, List.getElem?_cons_zero, List.getElem?_cons_succ, ↓aw1, ↓aw2, ↓aw17, aw3, aw4, aw5, aw6, aw7, aw8, aw9, aw10, aw11, aw12, aw13, aw14, aw15, aw16, aw19, Nat.reduceLeDiff, if_true, if_false, Nat.reduceEqDiff, Nat.reduceAdd, beq_self_eq_true, beq_true, beq_false, Bool.false_eq_true])
        | (refine EvRF.ret (hs _) ?_; simp only [List.length_map, ne_eq, not_false_eq_true, Option.map_some, Option.map_none, List.map_cons, List.map_nil, Bool.not_true, Bool.not_false, decide_true, decide_false, List.getElem?_cons_zero, List.getElem?_cons_succ, ↓aw1, ↓aw2, ↓aw17, aw3, aw4, aw5, aw6, aw7, aw8, aw9, aw10, aw11, aw12, aw13, aw14, aw15, aw16, aw19, Nat.reduceLeDiff, if_true, if_false, Nat.reduceEqDiff, Nat.reduceAdd, beq_self_eq_true, beq_true, beq_false, Bool.false_eq_true])
        | (simp only [aw21])
        | (refine BrF.mk (fun hb => ?_) (fun hb => ?_) <;> (try rw [hb]) <;> simp only [w3, List.length_map, List.take_succ_cons, List.take_zero, List.drop_zero, List.drop_succ_cons, ne_eq, not_false_eq_true, Option.map_some, Option.map_none, List.map_cons, List.map_nil, Bool.not_true, Bool.not_false, decide_true, decide_false, List.getElem?_cons_zero, List.getElem?_cons_succ, ↓aw1, ↓aw2, ↓aw17, aw3, aw4, aw5, aw6, aw7, aw8, aw9, aw10, aw11, aw12, aw13, aw14, aw15, aw16, aw19, Nat.reduceLeDiff, if_true, if_false, Nat.reduceEqDiff, Nat.reduceAdd, beq_self_eq_true, beq_true, beq_false, Bool.false_eq_true]))
      any_goals (simp [*] at h2; subst h2; exact Fin.same0 hcl rfl ⟨rfl, rfl⟩)
      rename_i k1
      simp only [k1, hb, Bool.true_and] at h2
      exact ⟨i + 1, ⟨by omega, h2⟩, by omega, weak_of rfl (by simp [look])⟩
    · have e1 : decide ((i : Int) < (l.length : Int)) = false := by rw [decide_eq_false_iff_not]; omega
      rw [List.drop_eq_nil_of_le (by omega), List.drop_eq_nil_of_le (by omega)] at h2
      simp only [all2] at h2
      subst h2
      simp only [e1, List.length_map, ne_eq, not_false_eq_true, Option.map_some, Option.map_none, List.map_cons, List.map_nil, Bool.not_true, Bool.not_false, decide_true, decide_false, List.getElem?_cons_zero, List.getElem?_cons_succ, ↓aw1, ↓aw2, ↓aw17, aw3, aw4, aw5, aw6, aw7, aw8, aw9, aw10, aw11, aw12, aw13, aw14, aw15, aw16, aw19, Nat.reduceLeDiff, if_true, if_false, Nat.reduceEqDiff, Nat.reduceAdd, beq_self_eq_true, beq_true, beq_false, Bool.false_eq_true]
      exact Fin.same0 hcl rfl ⟨rfl, rfl⟩
end Go.Abs.Fr

namespace Go.Abs.Fr
open Go Go.Abs Go.Proofs
set_option linter.unusedSimpArgs false
set_option maxRecDepth 100000

/-! ### The same, as an equation -/
theorem eq1_iff (a b : Arg) : eq1 a b = true ↔ a = b := by
  obtain ⟨t, n, s, h⟩ := a
  obtain ⟨t', n', s', h'⟩ := b
  simp only [eq1, Bool.and_eq_true, decide_eq_true_eq, and_true, Arg.mk.injEq]
theorem all2_iff {α : Type} {p : α → α → Bool} : ∀ {l r : List α}, (∀ a, a ∈ l → ∀ b, p a b = true ↔ a = b) → (all2 p l r = true ↔ l = r)
  | [], [], _ => by simp [all2]
  | [], _ :: _, _ => by simp [all2]
  | _ :: _, [], _ => by simp [all2]
  | a :: l, b :: r, h => by
    have h1 := h a (List.mem_cons_self ..) b
    have h2 := all2_iff (l := l) (r := r) fun x hx => h x (List.mem_cons_of_mem _ hx)
    simp only [all2, Bool.and_eq_true, h1, h2, List.cons.injEq]
mutual
theorem eqS_iff : ∀ (s s' : Stmt), eqS s s' = true ↔ s = s'
  | .mk o n a t e, .mk o' n' a' t' e' => by
    have h1 := all2_iff (p := eq1) (l := a) (r := a') fun x _ b => eq1_iff x b
    have h2 := eqL_iff t t'
    have h3 := eqL_iff e e'
    simp only [eqS, Bool.and_eq_true, decide_eq_true_eq, h1, h2, h3, Stmt.mk.injEq]
theorem eqL_iff : ∀ (l r : List Stmt), eqL l r = true ↔ l = r
  | [], [] => by simp [eqL]
  | [], _ :: _ => by simp [eqL]
  | _ :: _, [] => by simp [eqL]
  | s :: l, s' :: r => by
    have h1 := eqS_iff s s'
    have h2 := eqL_iff l r
    simp only [eqL, Bool.and_eq_true, h1, h2, List.cons.injEq]
end
theorem eqF_iff (f g : Fun) : eqF f g = true ↔ f = g := by
  obtain ⟨n, b⟩ := f
  obtain ⟨n', b'⟩ := g
  have := eqL_iff b b'
  rw [eqL_all2] at this
  simp only [eqF, Bool.and_eq_true, decide_eq_true_eq, this, Fun.mk.injEq]
theorem sameF_iff (l r : List Fun) : all2 eqF l r = true ↔ l = r := all2_iff fun a _ b => eqF_iff a b

/-! ### Reading back -/
def Stop (p : UInt8 → Bool) (y : List UInt8) : Prop := ∀ c t, y = c :: t → p c = false
theorem stop_cons {p : UInt8 → Bool} {c : UInt8} {t : List UInt8} (h : p c = false) : Stop p (c :: t) := fun c' t' e => by cases e; exact h
theorem span_inj {p : UInt8 → Bool} : ∀ {x x' y y' : List UInt8}, (∀ c, c ∈ x → p c = true) → (∀ c, c ∈ x' → p c = true) → Stop p y → Stop p y' → x ++ y = x' ++ y' → x = x' ∧ y = y'
  | [], [], y, y', _, _, _, _, h => ⟨rfl, h⟩
  | [], c :: x', y, y', _, h2, h3, _, h => by
    have := h3 c (x' ++ y') h
    rw [h2 c (List.mem_cons_self ..)] at this; cases this
  | c :: x, [], y, y', h1, _, _, h4, h => by
    have := h4 c (x ++ y) h.symm
    rw [h1 c (List.mem_cons_self ..)] at this; cases this
  | c :: x, c' :: x', y, y', h1, h2, h3, h4, h => by
    simp only [List.cons_append, List.cons.injEq] at h
    obtain ⟨rfl, h⟩ := h
    obtain ⟨rfl, rfl⟩ := span_inj (fun d hd => h1 d (List.mem_cons_of_mem _ hd)) (fun d hd => h2 d (List.mem_cons_of_mem _ hd)) h3 h4 h
    exact ⟨rfl, rfl⟩

/-! Numbers. -/
def dval (l : List UInt8) : Nat := l.foldl (fun a c => 10 * a + (c.toNat - 48)) 0
theorem dval_digits : ∀ n : Nat, dval (Lib.decDigits n) = n := by
  intro n
  induction n using Nat.strongRecOn with
  | _ n ih =>
    by_cases h : n < 10
    · rw [Lib.decDigits_one h]
      exact (show ∀ n : _root_.Fin 10, dval [UInt8.ofNat (48 + n.val)] = n.val by decide +kernel) ⟨n, h⟩
    · rw [Lib.decDigits, dif_neg h]
      have h1 := ih (n / 10) (by omega)
      have h2 : (UInt8.ofNat (48 + n % 10)).toNat - 48 = n % 10 := (show ∀ n : _root_.Fin 10, (UInt8.ofNat (48 + n.val)).toNat - 48 = n.val by decide +kernel) ⟨n % 10, Nat.mod_lt _ (by decide)⟩
      unfold dval at h1 ⊢
      rw [List.foldl_append, h1]
      simp only [List.foldl_cons, List.foldl_nil, h2]
      omega
theorem digits_pos (n : Nat) : Lib.decDigits n ≠ [] := by
  by_cases h : n < 10
  · rw [Lib.decDigits_one h]; simp
  · rw [Lib.decDigits, dif_neg h]; simp
theorem itoa_inj {m n : Int} (h : Lib.itoa m = Lib.itoa n) : m = n := by
  have no : ∀ k l, 45 :: l ≠ Lib.decDigits k := fun k l e => by
    have := decDigits_chars k 45 (by rw [← e]; exact List.mem_cons_self ..)
    exact (dig_ne this).2.2.2.2 rfl
  unfold Lib.itoa at h
  split at h <;> split at h
  · simp only [List.cons.injEq, true_and] at h
    have := congrArg dval h
    rw [dval_digits, dval_digits] at this
    omega
  · exact absurd h (no _ _)
  · exact absurd h.symm (no _ _)
  · have := congrArg dval h
    rw [dval_digits, dval_digits] at this
    omega
theorem itoa_pos (n : Int) : ∃ c t, Lib.itoa n = c :: t := by
  unfold Lib.itoa
  split
  · exact ⟨_, _, rfl⟩
  · cases h : Lib.decDigits n.toNat with
    | nil => exact absurd h (digits_pos _)
    | cons c t => exact ⟨c, t, rfl⟩
def numc (c : UInt8) : Bool := decide (c = 45) || isDig c
theorem itoa_numc (n : Int) : ∀ c, c ∈ Lib.itoa n → numc c = true := fun c h => by
  rcases itoa_chars h with rfl | h
  · rfl
  · simp [numc, h]
theorem numc_ne {c : UInt8} (h : numc c = true) : c ≠ 34 ∧ c ≠ 44 ∧ c ≠ 41 := by
  revert h
  exact each_u8 (p := fun c => numc c = true → c ≠ 34 ∧ c ≠ 44 ∧ c ≠ 41) (by decide +kernel) c

/-! What stands in quotes. -/
def hval (a b : UInt8) : Nat :=
  let d := fun (x : UInt8) => if x.toNat < 58 then x.toNat - 48 else x.toNat - 87
  16 * d a + d b
theorem qc_shape (c : UInt8) : (qc c = [c] ∧ c ≠ 92 ∧ c ≠ 34) ∨ (qc c = [92, c] ∧ c ≠ 120) ∨ (qc c = [92, 120, hx (c.toNat / 16), hx (c.toNat % 16)] ∧ hval (hx (c.toNat / 16)) (hx (c.toNat % 16)) = c.toNat) :=
  each_u8 (p := fun c => (qc c = [c] ∧ c ≠ 92 ∧ c ≠ 34) ∨ (qc c = [92, c] ∧ c ≠ 120) ∨ (qc c = [92, 120, hx (c.toNat / 16), hx (c.toNat % 16)] ∧ hval (hx (c.toNat / 16)) (hx (c.toNat % 16)) = c.toNat)) (by decide +kernel) c
theorem qc_inj {c d : UInt8} {r r' : List UInt8} (h : qc c ++ r = qc d ++ r') : c = d ∧ r = r' := by
  rcases qc_shape c with ⟨e1, h1, h2⟩ | ⟨e1, h1⟩ | ⟨e1, h1⟩ <;> rcases qc_shape d with ⟨e2, h3, h4⟩ | ⟨e2, h3⟩ | ⟨e2, h3⟩ <;> rw [e1, e2] at h <;>
    simp only [List.cons_append, List.nil_append, List.cons.injEq, true_and] at h
  · exact h
  · exact absurd h.1 h1
  · exact absurd h.1 h1
  · exact absurd h.1.symm h3
  · exact h
  · exact absurd h.1 h1
  · exact absurd h.1.symm h3
  · exact absurd h.1.symm h3
  · obtain ⟨h5, h6, h7⟩ := h
    rw [h5, h6] at h1
    exact ⟨UInt8.toNat_inj.1 (h1.symm.trans h3), h7⟩
theorem qc_head (c : UInt8) (r : List UInt8) (t : List UInt8) : qc c ++ r ≠ 34 :: t := by
  intro h
  rcases qc_shape c with ⟨e1, h1, h2⟩ | ⟨e1, h1⟩ | ⟨e1, h1⟩ <;> rw [e1] at h <;> simp only [List.cons_append, List.nil_append, List.cons.injEq] at h
  · exact h2 h.1
  · exact absurd h.1 (by decide)
  · exact absurd h.1 (by decide)
theorem flat_inj : ∀ {l l' r r' : List UInt8}, l.flatMap qc ++ 34 :: r = l'.flatMap qc ++ 34 :: r' → l = l' ∧ r = r'
  | [], [], r, r', h => by simpa using h
  | [], c :: l', r, r', h => by
    simp only [List.flatMap_nil, List.nil_append, List.flatMap_cons, List.append_assoc] at h
    exact absurd h.symm (qc_head _ _ _)
  | c :: l, [], r, r', h => by
    simp only [List.flatMap_nil, List.nil_append, List.flatMap_cons, List.append_assoc] at h
    exact absurd h (qc_head _ _ _)
  | c :: l, c' :: l', r, r', h => by
    simp only [List.flatMap_cons, List.append_assoc] at h
    obtain ⟨rfl, g⟩ := qc_inj h
    obtain ⟨rfl, rfl⟩ := flat_inj g
    exact ⟨rfl, rfl⟩
theorem quo_inj {l l' r r' : List UInt8} (h : quo l ++ r = quo l' ++ r') : l = l' ∧ r = r' := by
  simp only [quo, List.cons_append, List.append_assoc, List.nil_append, List.cons.injEq, true_and] at h
  exact flat_inj h

/-! Arguments. -/
theorem bytes_inj {a b : ByteArray} (h : a.data.toList = b.data.toList) : a = b := by
  apply ByteArray.ext
  exact Array.ext' h
def Ends (r : List UInt8) : Prop := ∃ c t, r = c :: t ∧ (c = 44 ∨ c = 41)
theorem ends_stop {r : List UInt8} (h : Ends r) : Stop numc r := by
  obtain ⟨c, t, rfl, h⟩ := h
  refine stop_cons ?_
  rcases h with rfl | rfl <;> decide
theorem argt_inj {a b : Arg} {r r' : List UInt8} (ha : okArg a = true) (hb : okArg b = true) (hr : Ends r) (hr' : Ends r') (h : argt a ++ r = argt b ++ r') : a = b ∧ r = r' := by
  obtain ⟨t, n, s, hn⟩ := a
  obtain ⟨t', n', s', hn'⟩ := b
  have mix : ∀ (k : Int) (q x y : List UInt8), Lib.itoa k ++ x ≠ quo q ++ y := by
    intro k q x y e
    obtain ⟨c, u, hc⟩ := itoa_pos k
    have h1 := itoa_numc k c (by rw [hc]; exact List.mem_cons_self ..)
    rw [hc, quo] at e
    simp only [List.cons_append, List.cons.injEq] at e
    exact (numc_ne h1).1 e.1
  unfold okArg at ha hb
  unfold argt at h
  cases t <;> cases t' <;> simp only [Bool.false_eq_true, if_false, if_true, Bool.and_eq_true, decide_eq_true_eq] at ha hb h
  · obtain ⟨h1, h2⟩ := span_inj (itoa_numc n) (itoa_numc n') (ends_stop hr) (ends_stop hr') h
    have := itoa_inj h1
    subst this
    obtain ⟨rfl, _⟩ := ha
    obtain ⟨rfl, _⟩ := hb
    exact ⟨rfl, h2⟩
  · exact absurd h (mix _ _ _ _)
  · exact absurd h.symm (mix _ _ _ _)
  · obtain ⟨h1, h2⟩ := quo_inj h
    have := bytes_inj h1
    subst this
    subst ha hb
    exact ⟨rfl, h2⟩
/-- What stands behind the first argument. -/
def tailA (l : List Arg) : List UInt8 := Lib.joinTail [44, 32] (l.map argt)
theorem tailA_cons (a : Arg) (l : List Arg) : tailA (a :: l) = 44 :: 32 :: (argt a ++ tailA l) := by simp [tailA, Lib.joinTail]
theorem tailA_ends (l : List Arg) (r : List UInt8) : Ends (tailA l ++ 41 :: r) := by
  cases l with
  | nil => exact ⟨41, r, by simp [tailA, Lib.joinTail], .inr rfl⟩
  | cons a l => rw [tailA_cons]; exact ⟨44, _, rfl, .inl rfl⟩
theorem tailA_inj : ∀ {l l' : List Arg} {r r' : List UInt8}, (∀ a, a ∈ l → okArg a = true) → (∀ a, a ∈ l' → okArg a = true) → tailA l ++ 41 :: r = tailA l' ++ 41 :: r' → l = l' ∧ r = r'
  | [], [], r, r', _, _, h => by simpa [tailA, Lib.joinTail] using h
  | [], a :: l', r, r', _, _, h => by
    rw [tailA_cons] at h
    simp [tailA, Lib.joinTail] at h
  | a :: l, [], r, r', _, _, h => by
    rw [tailA_cons] at h
    simp [tailA, Lib.joinTail] at h
  | a :: l, b :: l', r, r', h1, h2, h => by
    rw [tailA_cons, tailA_cons] at h
    simp only [List.cons_append, List.append_assoc, List.cons.injEq, true_and] at h
    obtain ⟨rfl, g⟩ := argt_inj (h1 a (List.mem_cons_self ..)) (h2 b (List.mem_cons_self ..)) (tailA_ends _ _) (tailA_ends _ _) h
    obtain ⟨rfl, rfl⟩ := tailA_inj (fun x hx => h1 x (List.mem_cons_of_mem _ hx)) (fun x hx => h2 x (List.mem_cons_of_mem _ hx)) g
    exact ⟨rfl, rfl⟩
theorem argsT_cons (a : Arg) (l : List Arg) : argsT (a :: l) = argt a ++ tailA l := by simp [argsT, Lib.join_cons, tailA]
theorem argsT_nil : argsT [] = [] := by simp [argsT, Lib.join_nil]
theorem argt_head (a : Arg) (x t : List UInt8) : argt a ++ x ≠ 41 :: t := by
  intro h
  unfold argt at h
  split at h
  · simp [quo] at h
  · obtain ⟨c, u, hc⟩ := itoa_pos a.n
    have h1 := itoa_numc a.n c (by rw [hc]; exact List.mem_cons_self ..)
    rw [hc] at h
    simp only [List.cons_append, List.cons.injEq] at h
    exact (numc_ne h1).2.2 h.1
theorem argsT_inj {l l' : List Arg} {r r' : List UInt8} (h1 : ∀ a, a ∈ l → okArg a = true) (h2 : ∀ a, a ∈ l' → okArg a = true) (h : argsT l ++ 41 :: r = argsT l' ++ 41 :: r') : l = l' ∧ r = r' := by
  cases l with
  | nil => cases l' with
    | nil => rw [argsT_nil] at h; simpa using h
    | cons b l' => rw [argsT_nil, argsT_cons, List.append_assoc] at h; exact absurd h.symm (argt_head _ _ _)
  | cons a l => cases l' with
    | nil => rw [argsT_nil, argsT_cons, List.append_assoc] at h; exact absurd h (argt_head _ _ _)
    | cons b l' =>
      rw [argsT_cons, argsT_cons, List.append_assoc, List.append_assoc] at h
      obtain ⟨rfl, g⟩ := argt_inj (h1 a (List.mem_cons_self ..)) (h2 b (List.mem_cons_self ..)) (tailA_ends _ _) (tailA_ends _ _) h
      obtain ⟨rfl, rfl⟩ := tailA_inj (fun x hx => h1 x (List.mem_cons_of_mem _ hx)) (fun x hx => h2 x (List.mem_cons_of_mem _ hx)) g
      exact ⟨rfl, rfl⟩

/-! A statement's head. -/
theorem name_inj {a b : ByteArray} {c : UInt8} {r r' : List UInt8} (ha : Alnum a) (hb : Alnum b) (hc : aln c = false) (h : a.data.toList ++ c :: r = b.data.toList ++ c :: r') : a = b ∧ r = r' := by
  obtain ⟨h1, h2⟩ := span_inj ha.all hb.all (stop_cons hc) (stop_cons hc) h
  simp only [List.cons.injEq, true_and] at h2
  exact ⟨bytes_inj h1, h2⟩
theorem call_inj {s s' : Stmt} {r r' : List UInt8} (hn : Alnum s.name) (hn' : Alnum s'.name) (ha : ∀ a, a ∈ s.args → okArg a = true) (ha' : ∀ a, a ∈ s'.args → okArg a = true) (h : callT s ++ r = callT s' ++ r') :
    s.name = s'.name ∧ s.args = s'.args ∧ r = r' := by
  simp only [callT, List.cons_append, List.append_assoc, List.cons.injEq, true_and, List.nil_append] at h
  obtain ⟨h1, h⟩ := name_inj hn hn' (by decide) h
  obtain ⟨h2, h⟩ := argsT_inj ha ha' h
  exact ⟨h1, h2, h⟩
/-- The first word, and what follows. -/
theorem head_tok {B : List Stmt → Bool} {s : Stmt} (h : OkS B s) (R : List UInt8) : ∃ tok sep rest, (headT s).flatten ++ R = tok ++ sep :: rest ∧ (∀ c, c ∈ tok → aln c = true) ∧ tok ≠ [] ∧ aln sep = false ∧
    ((s.op = 1 ∧ tok = [99] ∧ sep = 46) ∨ (s.op = 2 ∧ tok = s.name.data.toList ∧ sep = 40) ∨ (s.op = 3 ∧ tok = [105, 102] ∧ sep = 32) ∨ (s.op = 4 ∧ tok = [102, 111, 114] ∧ sep = 32)) := by
  rcases h.cases with ⟨h1, _⟩ | ⟨h1, _⟩ | ⟨h1, _⟩ | ⟨h1, _⟩
  · refine ⟨s.name.data.toList, 40, [99, 41] ++ R, ?_, h.nm.all, ?_, by decide, .inr (.inl ⟨h1, rfl, rfl⟩)⟩
    · simp [headT, h1]
    · intro e; have := h.nm.pos; rw [e] at this; simp at this
  · exact ⟨[99], 46, _, by simp [headT, h1, callT]; rfl, by decide, by simp, by decide, .inl ⟨h1, rfl, rfl⟩⟩
  · exact ⟨[102, 111, 114], 32, callT s ++ ([32, 123] ++ R), by simp [headT, h1], by decide, by simp, by decide, .inr (.inr (.inr ⟨h1, rfl, rfl⟩))⟩
  · exact ⟨[105, 102], 32, callT s ++ ([32, 123] ++ R), by simp [headT, h1], by decide, by simp, by decide, .inr (.inr (.inl ⟨h1, rfl, rfl⟩))⟩
theorem head_inj {B : List Stmt → Bool} {s s' : Stmt} {R R' : List UInt8} (h : OkS B s) (h' : OkS B s') (e : (headT s).flatten ++ 10 :: R = (headT s').flatten ++ 10 :: R') : s.op = s'.op ∧ s.name = s'.name ∧ s.args = s'.args ∧ R = R' := by
  obtain ⟨tok, sep, rest, e1, a1, _, b1, c1⟩ := head_tok h (10 :: R)
  obtain ⟨tok', sep', rest', e2, a2, _, b2, c2⟩ := head_tok h' (10 :: R')
  have e0 := e
  rw [e1, e2] at e0
  obtain ⟨t1, t2⟩ := span_inj a1 a2 (stop_cons b1) (stop_cons b2) e0
  simp only [List.cons.injEq] at t2
  obtain ⟨t2, _⟩ := t2
  have hop : s.op = s'.op := by
    rcases c1 with ⟨k, kt, ks⟩ | ⟨k, kt, ks⟩ | ⟨k, kt, ks⟩ | ⟨k, kt, ks⟩ <;> rcases c2 with ⟨k', kt', ks'⟩ | ⟨k', kt', ks'⟩ | ⟨k', kt', ks'⟩ | ⟨k', kt', ks'⟩ <;>
      first
      | (rw [k, k']; done)
      | (rw [ks, ks'] at t2; exact absurd t2 (by decide))
      | (rw [kt, kt'] at t1; exact absurd t1 (by decide))
  refine ⟨hop, ?_⟩
  rcases h.cases with ⟨h1, h2, _⟩ | ⟨h1, _⟩ | ⟨h1, _⟩ | ⟨h1, _⟩
  · have h1' : s'.op = 2 := hop ▸ h1
    have h2' : s'.args = [] := by
      rcases h'.cases with ⟨_, h, _⟩ | ⟨h, _⟩ | ⟨h, _⟩ | ⟨h, _⟩
      · exact h
      all_goals (rw [h1'] at h; exact absurd h (by decide))
    simp [headT, h1, h1'] at e
    obtain ⟨e3, e4⟩ := name_inj h.nm h'.nm (c := 40) (by decide) e
    simp at e4
    exact ⟨e3, by rw [h2, h2'], e4⟩
  · have h1' : s'.op = 1 := hop ▸ h1
    simp only [headT, h1, h1', decide_true, if_true, List.flatten_cons, List.flatten_nil, List.append_nil] at e
    obtain ⟨e3, e4, e5⟩ := call_inj h.nm h'.nm h.args h'.args e
    simp only [List.cons.injEq, true_and] at e5
    exact ⟨e3, e4, e5⟩
  · have h1' : s'.op = 4 := hop ▸ h1
    simp [headT, h1, h1'] at e
    obtain ⟨e3, e4, e5⟩ := call_inj h.nm h'.nm h.args h'.args e
    simp at e5
    exact ⟨e3, e4, e5⟩
  · have h1' : s'.op = 3 := hop ▸ h1
    simp [headT, h1, h1'] at e
    obtain ⟨e3, e4, e5⟩ := call_inj h.nm h'.nm h.args h'.args e
    simp at e5
    exact ⟨e3, e4, e5⟩

/-! Statements. -/
/-- No statement so far to the right begins here. -/
def StopT (t : Nat) (R : List UInt8) : Prop := ∀ c x, R = List.replicate t 9 ++ c :: x → aln c = false
theorem stop_line (t : Nat) (c : UInt8) (R : List UInt8) (hc : c ≠ 9) : StopT (t + 1) (List.replicate t 9 ++ c :: R) := by
  intro d x h
  rw [← rep_snoc, List.append_assoc] at h
  have := List.append_cancel_left h
  simp only [List.cons_append, List.nil_append, List.cons.injEq] at this
  exact absurd this.1 hc
theorem lineT_app (t : Nat) (l : List (List UInt8)) (R : List UInt8) : lineT t l ++ R = List.replicate t 9 ++ (l.flatten ++ 10 :: R) := by simp [lineT]

theorem stmt_inj {B : List Stmt → Bool} (ih : ∀ l l' : List Stmt, B l = true → B l' = true → ∀ (t : Nat) R R', StopT t R → StopT t R' → stmtsT t l ++ R = stmtsT t l' ++ R' → l = l' ∧ R = R')
    {s s' : Stmt} (h : OkS B s) (h' : OkS B s') {t : Nat} {R R' : List UInt8} (e : stmtT t s ++ R = stmtT t s' ++ R') : s = s' ∧ R = R' := by
  rw [stmtT_eq, stmtT_eq, List.append_assoc, List.append_assoc, lineT_app t (headT s), lineT_app t (headT s')] at e
  have e := List.append_cancel_left e
  obtain ⟨h1, h2, h3, e⟩ := head_inj h h' e
  have fin : s.thn = s'.thn → s.els = s'.els → s = s' := fun h4 h5 => by
    obtain ⟨o, n, a, th, el⟩ := s
    obtain ⟨o', n', a', th', el'⟩ := s'
    have : o = o' := h1; subst this
    have : n = n' := h2; subst this
    have : a = a' := h3; subst this
    have : th = th' := h4; subst this
    have : el = el' := h5; subst this
    rfl
  have ln : ∀ X, lineT t [[125]] ++ X = List.replicate t 9 ++ 125 :: (10 :: X) := fun X => by simp [lineT]
  have le : ∀ X, lineT t [[125, 32, 101, 108, 115, 101, 32, 123]] ++ X = List.replicate t 9 ++ 125 :: (32 :: 101 :: 108 :: 115 :: 101 :: 32 :: 123 :: 10 :: X) := fun X => by simp [lineT]
  rcases h.cases with ⟨k, _, k3, k4, _⟩ | ⟨k, k3, k4⟩ | ⟨k, k4, kB⟩ | ⟨k, kB, kE⟩
  · have k' : s'.op = 2 := h1 ▸ k
    rw [if_pos (by simp [k]), if_pos (by simp [k'])] at e
    rcases h'.cases with ⟨q, _, q3, q4, _⟩ | ⟨q, _⟩ | ⟨q, _⟩ | ⟨q, _⟩
    · exact ⟨fin (by rw [k3, q3]) (by rw [k4, q4]), by simpa using e⟩
    all_goals (rw [k'] at q; exact absurd q (by decide))
  · have k' : s'.op = 1 := h1 ▸ k
    rw [if_pos (by simp [k]), if_pos (by simp [k'])] at e
    rcases h'.cases with ⟨q, _⟩ | ⟨q, q3, q4⟩ | ⟨q, _⟩ | ⟨q, _⟩
    · rw [k'] at q; exact absurd q (by decide)
    · exact ⟨fin (by rw [k3, q3]) (by rw [k4, q4]), by simpa using e⟩
    all_goals (rw [k'] at q; exact absurd q (by decide))
  · have k' : s'.op = 4 := h1 ▸ k
    rw [if_neg (show ¬ (decide (s.op = 1) || decide (s.op = 2)) = true by simp [k]), if_neg (show ¬ (decide (s'.op = 1) || decide (s'.op = 2)) = true by simp [k'])] at e
    rcases h'.cases with ⟨q, _⟩ | ⟨q, _⟩ | ⟨q, q4, qB⟩ | ⟨q, _⟩
    · rw [k'] at q; exact absurd q (by decide)
    · rw [k'] at q; exact absurd q (by decide)
    · simp only [k4, q4, List.length_nil, if_true, List.append_assoc, List.nil_append, ln] at e
      obtain ⟨i1, i2⟩ := ih _ _ kB qB (t + 1) _ _ (stop_line t 125 _ (by decide)) (stop_line t 125 _ (by decide)) e
      have i2 := List.append_cancel_left i2
      simp only [List.cons.injEq, true_and] at i2
      exact ⟨fin i1 (by rw [k4, q4]), i2⟩
    · rw [k'] at q; exact absurd q (by decide)
  · have k' : s'.op = 3 := h1 ▸ k
    rw [if_neg (show ¬ (decide (s.op = 1) || decide (s.op = 2)) = true by simp [k]), if_neg (show ¬ (decide (s'.op = 1) || decide (s'.op = 2)) = true by simp [k'])] at e
    rcases h'.cases with ⟨q, _⟩ | ⟨q, _⟩ | ⟨q, _⟩ | ⟨q, qB, qE⟩
    · rw [k'] at q; exact absurd q (by decide)
    · rw [k'] at q; exact absurd q (by decide)
    · rw [k'] at q; exact absurd q (by decide)
    · by_cases z : s.els.length = 0 <;> by_cases z' : s'.els.length = 0
      · simp only [if_pos z, if_pos z', List.append_assoc, List.nil_append, ln] at e
        obtain ⟨i1, i2⟩ := ih _ _ kB qB (t + 1) _ _ (stop_line t 125 _ (by decide)) (stop_line t 125 _ (by decide)) e
        have i2 := List.append_cancel_left i2
        simp only [List.cons.injEq, true_and] at i2
        exact ⟨fin i1 (by rw [List.length_eq_zero_iff.1 z, List.length_eq_zero_iff.1 z']), i2⟩
      · simp only [if_pos z, if_neg z', List.append_assoc, List.nil_append, ln, le] at e
        obtain ⟨_, i2⟩ := ih _ _ kB qB (t + 1) _ _ (stop_line t 125 _ (by decide)) (stop_line t 125 _ (by decide)) e
        have i2 := List.append_cancel_left i2
        simp at i2
      · simp only [if_neg z, if_pos z', List.append_assoc, List.nil_append, ln, le] at e
        obtain ⟨_, i2⟩ := ih _ _ kB qB (t + 1) _ _ (stop_line t 125 _ (by decide)) (stop_line t 125 _ (by decide)) e
        have i2 := List.append_cancel_left i2
        simp at i2
      · simp only [if_neg z, if_neg z', List.append_assoc, ln, le] at e
        obtain ⟨i1, i2⟩ := ih _ _ kB qB (t + 1) _ _ (stop_line t 125 _ (by decide)) (stop_line t 125 _ (by decide)) e
        have i2 := List.append_cancel_left i2
        simp only [List.append_eq, List.cons_append, List.cons.injEq, true_and] at i2
        obtain ⟨i3, i4⟩ := ih _ _ kE qE (t + 1) _ _ (stop_line t 125 _ (by decide)) (stop_line t 125 _ (by decide)) i2
        have i4 := List.append_cancel_left i4
        simp only [List.cons.injEq, true_and] at i4
        exact ⟨fin i1 i3, i4⟩

theorem stmt_head {B : List Stmt → Bool} {s : Stmt} (h : OkS B s) (t : Nat) (R : List UInt8) : ¬ StopT t (stmtT t s ++ R) := by
  intro hs
  rw [stmtT_eq, List.append_assoc, lineT_app] at hs
  obtain ⟨tok, sep, rest, e1, a1, n1, _, _⟩ := head_tok h (10 :: ((if (decide (s.op = 1) || decide (s.op = 2)) = true then [] else stmtsT (t + 1) s.thn ++ ((if s.els.length = 0 then [] else lineT t [[125, 32, 101, 108, 115, 101, 32, 123]] ++ stmtsT (t + 1) s.els) ++ lineT t [[125]])) ++ R))
  rw [e1] at hs
  cases tok with
  | nil => exact n1 rfl
  | cons c x =>
    have := hs c _ rfl
    rw [a1 c (List.mem_cons_self ..)] at this
    cases this

theorem list_inj (P : Stmt → Prop) (hq : ∀ s s', P s → P s' → ∀ t R R', stmtT t s ++ R = stmtT t s' ++ R' → s = s' ∧ R = R') (hh : ∀ s, P s → ∀ t R, ¬ StopT t (stmtT t s ++ R)) :
    ∀ l l' : List Stmt, (∀ s, s ∈ l → P s) → (∀ s, s ∈ l' → P s) → ∀ (t : Nat) R R', StopT t R → StopT t R' → stmtsT t l ++ R = stmtsT t l' ++ R' → l = l' ∧ R = R'
  | [], [], _, _, t, R, R', _, _, e => by simpa [stmtsT] using e
  | [], s :: l', _, h2, t, R, R', s1, _, e => by
    simp only [stmtsT, List.nil_append, List.append_assoc] at e
    rw [e] at s1
    exact absurd s1 (hh s (h2 s (List.mem_cons_self ..)) t _)
  | s :: l, [], h1, _, t, R, R', _, s2, e => by
    simp only [stmtsT, List.nil_append, List.append_assoc] at e
    rw [← e] at s2
    exact absurd s2 (hh s (h1 s (List.mem_cons_self ..)) t _)
  | s :: l, s' :: l', h1, h2, t, R, R', s1, s2, e => by
    simp only [stmtsT, List.append_assoc] at e
    obtain ⟨rfl, g⟩ := hq s s' (h1 s (List.mem_cons_self ..)) (h2 s' (List.mem_cons_self ..)) t _ _ e
    obtain ⟨rfl, rfl⟩ := list_inj P hq hh l l' (fun x hx => h1 x (List.mem_cons_of_mem _ hx)) (fun x hx => h2 x (List.mem_cons_of_mem _ hx)) t R R' s1 s2 g
    exact ⟨rfl, rfl⟩

theorem body_inj : ∀ (r : Nat) (l l' : List Stmt), okB r l = true → okB r l' = true → ∀ (t : Nat) R R', StopT t R → StopT t R' → stmtsT t l ++ R = stmtsT t l' ++ R' → l = l' ∧ R = R'
  | 0, l, l', h, h', t, R, R', _, _, e => by
    obtain rfl : l = [] := List.length_eq_zero_iff.1 (by simpa [okB] using h)
    obtain rfl : l' = [] := List.length_eq_zero_iff.1 (by simpa [okB] using h')
    simpa [stmtsT] using e
  | r + 1, l, l', h, h', t, R, R', s1, s2, e =>
    list_inj (fun s => OkS (okB r) s) (fun s s' hs hs' t R R' e => stmt_inj (body_inj r) hs hs' e) (fun s hs t R => stmt_head hs t R) l l' (fun s hs => okS_of (okB_mem h hs)) (fun s hs => okS_of (okB_mem h' hs)) t R R' s1 s2 e

theorem funs_inj : ∀ (l l' : List Fun), (∀ f, f ∈ l → isFn f.name = true ∧ okB 40 f.body = true) → (∀ f, f ∈ l' → isFn f.name = true ∧ okB 40 f.body = true) → funsT l = funsT l' → l = l'
  | [], [], _, _, _ => rfl
  | [], f :: l', _, _, e => by simp [funsT, funT, lineT] at e
  | f :: l, [], _, _, e => by simp [funsT, funT, lineT] at e
  | f :: l, g :: l', h, h', e => by
    obtain ⟨f1, f2⟩ := h f (List.mem_cons_self ..)
    obtain ⟨g1, g2⟩ := h' g (List.mem_cons_self ..)
    have e1 : ∀ (f : Fun) l, funsT (f :: l) = [102, 117, 110, 99, 32] ++ (f.name.data.toList ++ 40 :: ([99, 32, 42, 67, 41, 32, 123, 10] ++ (stmtsT 1 f.body ++ (List.replicate 0 9 ++ 125 :: (10 :: funsT l))))) := fun f l => by
      simp [funsT, funT, lineT]
    rw [e1, e1] at e
    have e := List.append_cancel_left e
    obtain ⟨n1, e⟩ := name_inj (isFn_alnum f1) (isFn_alnum g1) (by decide) e
    have e := List.append_cancel_left e
    obtain ⟨b1, e⟩ := body_inj 40 _ _ f2 g2 1 _ _ (stop_line 0 125 _ (by decide)) (stop_line 0 125 _ (by decide)) e
    have e := List.append_cancel_left e
    simp only [List.cons.injEq, true_and] at e
    have := funs_inj l l' (fun x hx => h x (List.mem_cons_of_mem _ hx)) (fun x hx => h' x (List.mem_cons_of_mem _ hx)) e
    obtain ⟨fn, fb⟩ := f
    obtain ⟨gn, gb⟩ := g
    simp only at n1 b1
    rw [n1, b1, this]

/-- The same text just where they are the same. -/
theorem text_same (l r : List Fun) (hl : okFs l = true) (hr : okFs r = true) : decide ((⟨(textT l).toArray⟩ : ByteArray) = ⟨(textT r).toArray⟩) = all2 eqF l r := by
  have h1 : ((⟨(textT l).toArray⟩ : ByteArray) = ⟨(textT r).toArray⟩) ↔ l = r := by
    constructor
    · intro h
      have h2 : textT l = textT r := by
        have := congrArg (fun b : ByteArray => b.data.toList) h
        simpa using this
      simp only [textT, hl, hr, if_true] at h2
      exact funs_inj l r (fun f hf => okF_of hl hf) (fun f hf => okF_of hr hf) h2
    · rintro rfl; rfl
  have h2 := sameF_iff l r
  cases hx : all2 eqF l r
  · rw [decide_eq_false_iff_not, h1, ← h2, hx]; decide
  · rw [decide_eq_true_eq, h1, ← h2, hx]
theorem same_symm (l r : List Fun) : all2 eqF l r = all2 eqF r l := by
  rw [Bool.eq_iff_iff, sameF_iff, sameF_iff]
  exact eq_comm
theorem same_refl (l : List Fun) : all2 eqF l l = true := (sameF_iff l l).2 rfl
end Go.Abs.Fr

namespace Go.Abs.Fr
open Go Go.Abs Go.Proofs
set_option linter.unusedSimpArgs false
set_option maxRecDepth 100000

set_option maxHeartbeats 2000000 in
theorem same6_ev (a b : List Fun) (hma : mxF a ≤ 2 ^ 48) (hmb : mxF b ≤ 2 ^ 48) (h : List AObj) : EvR E0 6 [funsv a, funsv b] h (boolv true) := by
  refine ev_of (fn := Tryd.f6) (hs := []) Tryd.func6 c6 (by simp) fun hcl => ?_
  simp only [ac6, ne_eq, not_false_eq_true, Option.map_some, Option.map_none, List.map_cons, List.map_nil, Bool.not_true, Bool.not_false, decide_true, decide_false, List.getElem?_cons_zero, List.getElem?_cons_succ, ↓aw1, ↓aw2, ↓aw17, aw3, aw4, aw5, aw6, aw7, aw8, aw9, aw10, aw11, aw12, aw13, aw14, aw15, aw16, aw19, Nat.reduceLeDiff, if_true, if_false, Nat.reduceEqDiff, Nat.reduceAdd, beq_self_eq_true, beq_true, beq_false, Bool.false_eq_true]
  refine EvF.ret (awake_ev h) ?_
  simp only [ne_eq, not_false_eq_true, Option.map_some, Option.map_none, List.map_cons, List.map_nil, Bool.not_true, Bool.not_false, decide_true, decide_false, List.getElem?_cons_zero, List.getElem?_cons_succ, ↓aw1, ↓aw2, ↓aw17, aw3, aw4, aw5, aw6, aw7, aw8, aw9, aw10, aw11, aw12, aw13, aw14, aw15, aw16, aw19, Nat.reduceLeDiff, if_true, if_false, Nat.reduceEqDiff, Nat.reduceAdd, beq_self_eq_true, beq_true, beq_false, Bool.false_eq_true]
  refine EvF.ret (isfew_ev a hma 2000 (by decide) (by decide) h) ?_
  cases h0 : decide ((0 : Int) ≤ fewF a 2000)
  · simp only [ne_eq, not_false_eq_true, Option.map_some, Option.map_none, List.map_cons, List.map_nil, Bool.not_true, Bool.not_false, decide_true, decide_false, List.getElem?_cons_zero, List.getElem?_cons_succ, ↓aw1, ↓aw2, ↓aw17, aw3, aw4, aw5, aw6, aw7, aw8, aw9, aw10, aw11, aw12, aw13, aw14, aw15, aw16, aw19, Nat.reduceLeDiff, if_true, if_false, Nat.reduceEqDiff, Nat.reduceAdd, beq_self_eq_true, beq_true, beq_false, Bool.false_eq_true]
    exact Fin.same0 hcl rfl ⟨rfl, rfl⟩
  rw [decide_eq_true_eq] at h0
  have hwa := few_w h0
  have hsza := szF_wF a
  have hlena := funsT_len a (by omega)
  simp only [ne_eq, not_false_eq_true, Option.map_some, Option.map_none, List.map_cons, List.map_nil, Bool.not_true, Bool.not_false, decide_true, decide_false, List.getElem?_cons_zero, List.getElem?_cons_succ, ↓aw1, ↓aw2, ↓aw17, aw3, aw4, aw5, aw6, aw7, aw8, aw9, aw10, aw11, aw12, aw13, aw14, aw15, aw16, aw19, Nat.reduceLeDiff, if_true, if_false, Nat.reduceEqDiff, Nat.reduceAdd, beq_self_eq_true, beq_true, beq_false, Bool.false_eq_true]
  refine EvF.ret (isfew_ev b hmb 2000 (by decide) (by decide) h) ?_
  cases h1 : decide ((0 : Int) ≤ fewF b 2000)
  · simp only [ne_eq, not_false_eq_true, Option.map_some, Option.map_none, List.map_cons, List.map_nil, Bool.not_true, Bool.not_false, decide_true, decide_false, List.getElem?_cons_zero, List.getElem?_cons_succ, ↓aw1, ↓aw2, ↓aw17, aw3, aw4, aw5, aw6, aw7, aw8, aw9, aw10, aw11, aw12, aw13, aw14, aw15, aw16, aw19, Nat.reduceLeDiff, if_true, if_false, Nat.reduceEqDiff, Nat.reduceAdd, beq_self_eq_true, beq_true, beq_false, Bool.false_eq_true]
    exact Fin.same0 hcl rfl ⟨rfl, rfl⟩
  rw [decide_eq_true_eq] at h1
  have hwb := few_w h1
  have hszb := szF_wF b
  have hlenb := funsT_len b (by omega)
  have x0 : ∀ x : Bool, (x == x) = true := fun x => by cases x <;> rfl
  simp only [ne_eq, not_false_eq_true, Option.map_some, Option.map_none, List.map_cons, List.map_nil, Bool.not_true, Bool.not_false, decide_true, decide_false, List.getElem?_cons_zero, List.getElem?_cons_succ, ↓aw1, ↓aw2, ↓aw17, aw3, aw4, aw5, aw6, aw7, aw8, aw9, aw10, aw11, aw12, aw13, aw14, aw15, aw16, aw19, Nat.reduceLeDiff, if_true, if_false, Nat.reduceEqDiff, Nat.reduceAdd, beq_self_eq_true, beq_true, beq_false, Bool.false_eq_true]
  refine EvF.ret (same_ev a b hma hmb h) ?_
  simp only [ne_eq, not_false_eq_true, Option.map_some, Option.map_none, List.map_cons, List.map_nil, Bool.not_true, Bool.not_false, decide_true, decide_false, List.getElem?_cons_zero, List.getElem?_cons_succ, ↓aw1, ↓aw2, ↓aw17, aw3, aw4, aw5, aw6, aw7, aw8, aw9, aw10, aw11, aw12, aw13, aw14, aw15, aw16, aw19, Nat.reduceLeDiff, if_true, if_false, Nat.reduceEqDiff, Nat.reduceAdd, beq_self_eq_true, beq_true, beq_false, Bool.false_eq_true]
  refine EvF.ret (refsame_ev a b hma hmb h) ?_
  simp only [bne_self_eq_false, x0, ne_eq, not_false_eq_true, Option.map_some, Option.map_none, List.map_cons, List.map_nil, Bool.not_true, Bool.not_false, decide_true, decide_false, List.getElem?_cons_zero, List.getElem?_cons_succ, ↓aw1, ↓aw2, ↓aw17, aw3, aw4, aw5, aw6, aw7, aw8, aw9, aw10, aw11, aw12, aw13, aw14, aw15, aw16, aw19, Nat.reduceLeDiff, if_true, if_false, Nat.reduceEqDiff, Nat.reduceAdd, beq_self_eq_true, beq_true, beq_false, Bool.false_eq_true]
  refine EvF.ret (same_ev b a hmb hma h) ?_
  rw [same_symm b a]
  simp only [bne_self_eq_false, x0, ne_eq, not_false_eq_true, Option.map_some, Option.map_none, List.map_cons, List.map_nil, Bool.not_true, Bool.not_false, decide_true, decide_false, List.getElem?_cons_zero, List.getElem?_cons_succ, ↓aw1, ↓aw2, ↓aw17, aw3, aw4, aw5, aw6, aw7, aw8, aw9, aw10, aw11, aw12, aw13, aw14, aw15, aw16, aw19, Nat.reduceLeDiff, if_true, if_false, Nat.reduceEqDiff, Nat.reduceAdd, beq_self_eq_true, beq_true, beq_false, Bool.false_eq_true]
  refine EvF.ret (same_ev a a hma hma h) ?_
  rw [same_refl a]
  simp only [ne_eq, not_false_eq_true, Option.map_some, Option.map_none, List.map_cons, List.map_nil, Bool.not_true, Bool.not_false, decide_true, decide_false, List.getElem?_cons_zero, List.getElem?_cons_succ, ↓aw1, ↓aw2, ↓aw17, aw3, aw4, aw5, aw6, aw7, aw8, aw9, aw10, aw11, aw12, aw13, aw14, aw15, aw16, aw19, Nat.reduceLeDiff, if_true, if_false, Nat.reduceEqDiff, Nat.reduceAdd, beq_self_eq_true, beq_true, beq_false, Bool.false_eq_true]
  refine EvF.ret (shaped_ev a (by omega) h) ?_
  cases hsa : okFs a
  · simp only [ne_eq, not_false_eq_true, Option.map_some, Option.map_none, List.map_cons, List.map_nil, Bool.not_true, Bool.not_false, decide_true, decide_false, List.getElem?_cons_zero, List.getElem?_cons_succ, ↓aw1, ↓aw2, ↓aw17, aw3, aw4, aw5, aw6, aw7, aw8, aw9, aw10, aw11, aw12, aw13, aw14, aw15, aw16, aw19, Nat.reduceLeDiff, if_true, if_false, Nat.reduceEqDiff, Nat.reduceAdd, beq_self_eq_true, beq_true, beq_false, Bool.false_eq_true]
    exact Fin.same0 hcl rfl ⟨rfl, rfl⟩
  simp only [ne_eq, not_false_eq_true, Option.map_some, Option.map_none, List.map_cons, List.map_nil, Bool.not_true, Bool.not_false, decide_true, decide_false, List.getElem?_cons_zero, List.getElem?_cons_succ, ↓aw1, ↓aw2, ↓aw17, aw3, aw4, aw5, aw6, aw7, aw8, aw9, aw10, aw11, aw12, aw13, aw14, aw15, aw16, aw19, Nat.reduceLeDiff, if_true, if_false, Nat.reduceEqDiff, Nat.reduceAdd, beq_self_eq_true, beq_true, beq_false, Bool.false_eq_true]
  refine EvF.ret (shaped_ev b (by omega) h) ?_
  cases hsb : okFs b
  · simp only [ne_eq, not_false_eq_true, Option.map_some, Option.map_none, List.map_cons, List.map_nil, Bool.not_true, Bool.not_false, decide_true, decide_false, List.getElem?_cons_zero, List.getElem?_cons_succ, ↓aw1, ↓aw2, ↓aw17, aw3, aw4, aw5, aw6, aw7, aw8, aw9, aw10, aw11, aw12, aw13, aw14, aw15, aw16, aw19, Nat.reduceLeDiff, if_true, if_false, Nat.reduceEqDiff, Nat.reduceAdd, beq_self_eq_true, beq_true, beq_false, Bool.false_eq_true]
    exact Fin.same0 hcl rfl ⟨rfl, rfl⟩
  simp only [ne_eq, not_false_eq_true, Option.map_some, Option.map_none, List.map_cons, List.map_nil, Bool.not_true, Bool.not_false, decide_true, decide_false, List.getElem?_cons_zero, List.getElem?_cons_succ, ↓aw1, ↓aw2, ↓aw17, aw3, aw4, aw5, aw6, aw7, aw8, aw9, aw10, aw11, aw12, aw13, aw14, aw15, aw16, aw19, Nat.reduceLeDiff, if_true, if_false, Nat.reduceEqDiff, Nat.reduceAdd, beq_self_eq_true, beq_true, beq_false, Bool.false_eq_true]
  refine EvF.ret (text_ev a (by omega) (by omega) h) ?_
  simp only [ne_eq, not_false_eq_true, Option.map_some, Option.map_none, List.map_cons, List.map_nil, Bool.not_true, Bool.not_false, decide_true, decide_false, List.getElem?_cons_zero, List.getElem?_cons_succ, ↓aw1, ↓aw2, ↓aw17, aw3, aw4, aw5, aw6, aw7, aw8, aw9, aw10, aw11, aw12, aw13, aw14, aw15, aw16, aw19, Nat.reduceLeDiff, if_true, if_false, Nat.reduceEqDiff, Nat.reduceAdd, beq_self_eq_true, beq_true, beq_false, Bool.false_eq_true]
  refine EvF.ret (text_ev b (by omega) (by omega) h) ?_
  have ht := text_same a b hsa hsb
  simp only [ht, ne_eq, not_false_eq_true, Option.map_some, Option.map_none, List.map_cons, List.map_nil, Bool.not_true, Bool.not_false, decide_true, decide_false, List.getElem?_cons_zero, List.getElem?_cons_succ, ↓aw1, ↓aw2, ↓aw17, aw3, aw4, aw5, aw6, aw7, aw8, aw9, aw10, aw11, aw12, aw13, aw14, aw15, aw16, aw19, Nat.reduceLeDiff, if_true, if_false, Nat.reduceEqDiff, Nat.reduceAdd, beq_self_eq_true, beq_true, beq_false, Bool.false_eq_true]
  cases all2 eqF a b
  all_goals
    exact Fin.same0 hcl rfl ⟨rfl, rfl⟩
end Go.Abs.Fr
