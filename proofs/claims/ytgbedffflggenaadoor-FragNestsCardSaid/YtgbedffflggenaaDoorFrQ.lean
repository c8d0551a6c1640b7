/- Whether there is little of a fragment: the walk. -/
import Derived.Test.YtgbedffflggenaaDoorFrM
set_option linter.all false
namespace Go.Abs.Fr
open Go Go.Abs Go.Proofs
set_option linter.unusedSimpArgs false
set_option maxRecDepth 100000

theorem aw_i64 (a : Int) (h1 : -9223372036854775808 ≤ a) (h2 : a ≤ 9223372036854775807) : IntKind.i64.wrap a = a := by rw [wrap_i64] <;> omega

set_option maxHeartbeats 4000000 in
theorem few_ev : ∀ (k : Nat) (l : List Stmt), szL l ≤ k → mxL l ≤ 2 ^ 48 → ∀ (n : Int), -(2 ^ 60) ≤ n → n ≤ 2 ^ 60 → ∀ (h : List AObj), EvR E0 17 [bodyv l, i64 n] h (i64 (fewL l n)) := by
  intro k
  induction k using Nat.strongRecOn with
  | _ k ih =>
    intro l hk hmx n hn0 hn1 h
    refine ev_of (fn := Tryd.f17) (hs := []) Tryd.func17 c17 (by simp) fun hcl => ?_
    have hlen := mxL_len l
    generalize hR : fewL l n = R
    simp only [ac17, List.length_map, ne_eq, not_false_eq_true, Option.map_some, Option.map_none, List.map_cons, List.map_nil, Bool.not_true, Bool.not_false, decide_true, decide_false, List.getElem?_cons_zero, List.getElem?_cons_succ, ↓aw1, ↓aw2, ↓aw17, aw3, aw4, aw5, aw6, aw7, aw8, aw9, aw10, aw11, aw12, aw13, aw14, aw15, aw16, aw19, Nat.reduceLeDiff, if_true, if_false, Nat.reduceEqDiff, Nat.reduceAdd, beq_self_eq_true, beq_true, beq_false, Bool.false_eq_true]
    refine LoopF.by (α := Nat × Int) (fun x => ⟨[(0, bodyv l), (1, i64 x.2), (5, i64 x.1)], h⟩) (fun x => l.length - x.1)
      (fun x => x.1 ≤ l.length ∧ -(2 ^ 60) ≤ x.2 ∧ x.2 ≤ 2 ^ 60 ∧ fewL (l.drop x.1) x.2 = R) (0, n) ⟨by omega, hn0, hn1, by simpa using hR⟩ (weak_of (by simp) (by simp [look])) ?_
    rintro ⟨i, m⟩ ⟨h1, hm0, hm1, h2⟩
    simp only at h1 hm0 hm1 h2
    by_cases hi : i < l.length
    · have e1 : decide ((i : Int) < (l.length : Int)) = true := by rw [decide_eq_true_eq]; omega
      cases e2 : decide ((0 : Int) ≤ m)
      · simp only [e1, e2, List.length_map, ne_eq, not_false_eq_true, Option.map_some, Option.map_none, List.map_cons, List.map_nil, Bool.not_true, Bool.not_false, decide_true, decide_false, List.getElem?_cons_zero, List.getElem?_cons_succ, ↓aw1, ↓aw2, ↓aw17, aw3, aw4, aw5, aw6, aw7, aw8, aw9, aw10, aw11, aw12, aw13, aw14, aw15, aw16, aw19, Nat.reduceLeDiff, if_true, if_false, Nat.reduceEqDiff, Nat.reduceAdd, beq_self_eq_true, beq_true, beq_false, Bool.false_eq_true]
        rw [decide_eq_false_iff_not] at e2
        rw [fewL_neg (by omega)] at h2
        subst h2
        exact Fin.same0 hcl rfl ⟨rfl, rfl⟩
      · obtain ⟨s, hs⟩ : ∃ s, l[i]? = some s := ⟨_, List.getElem?_eq_getElem hi⟩
        have w3 : IntKind.i64.wrap ((i : Int) + 1) = ((i + 1 : Nat) : Int) := by rw [wrap_i64] <;> omega
        have hmem := List.mem_of_getElem? hs
        have hszm := szL_mem hmem
        have hszs := szS_eq s
        have hmxm := mxL_mem hmem
        have hmxs := mxS_eq s
        have hma := mxA_len s.args
        rw [decide_eq_true_eq] at e2
        have hb := fewS_bounds (M := 2 ^ 48) s m (by omega) e2
        have hbA := fewA_bounds (M := 2 ^ 48) s.args (m - 1 - s.args.length - s.name.size) (by omega)
        have hbT := fewL_bounds (M := 2 ^ 48) s.thn (fewA s.args (m - 1 - s.args.length - s.name.size)) (by omega)
        rw [drop_get hs] at h2
        simp only [fewL, if_neg (show ¬ m < 0 by omega)] at h2
        rw [fewS_eq] at hb h2
        generalize hA : fewA s.args (m - 1 - s.args.length - s.name.size) = A at hb h2 hbA hbT
        have wm1 : IntKind.i64.wrap (m - 1) = m - 1 := aw_i64 _ (by omega) (by omega)
        have wm2 : IntKind.i64.wrap (m - 1 - (s.args.length : Int)) = m - 1 - (s.args.length : Int) := aw_i64 _ (by omega) (by omega)
        have wm3 : IntKind.i64.wrap (m - 1 - (s.args.length : Int) - (s.name.size : Int)) = m - 1 - (s.args.length : Int) - (s.name.size : Int) := aw_i64 _ (by omega) (by omega)
        have e2' : decide ((0 : Int) ≤ m) = true := by rw [decide_eq_true_eq]; exact e2
        have hg := map_get stmtv l i s hs
        simp only [e1, e2', List.length_map, ne_eq, not_false_eq_true, Option.map_some, Option.map_none, List.map_cons, List.map_nil, Bool.not_true, Bool.not_false, decide_true, decide_false, List.getElem?_cons_zero, List.getElem?_cons_succ, ↓aw1, ↓aw2, ↓aw17, aw3, aw4, aw5, aw6, aw7, aw8, aw9, aw10, aw11, aw12, aw13, aw14, aw15, aw16, aw19, Nat.reduceLeDiff, if_true, if_false, Nat.reduceEqDiff, Nat.reduceAdd, beq_self_eq_true, beq_true, beq_false, Bool.false_eq_true]
        repeat (refine Need.mk ⟨by omega, by first | omega | (simp; omega)⟩ (Elem.recs hg (by rw [stmtv_eq]; exact ⟨rfl, rfl⟩) ?_)
                simp only [stmtv_eq, wm1, wm2, wm3, List.length_map, List.take_succ_cons, List.take_zero, List.drop_zero, List.drop_succ_cons, ne_eq, not_false_eq_true, Option.map_some, Option.map_none, List.map_cons, List.map_nil, Bool.not_true, Bool.not_false, decide_true, decide_false, List.getElem?_cons_zero, List.getElem?_cons_succ, ↓aw1, ↓aw2, ↓aw17, aw3, aw4, aw5, aw6, aw7, aw8, aw9, aw10, aw11, aw12, aw13, aw14, aw15, aw16, aw19, Nat.reduceLeDiff, if_true, if_false, Nat.reduceEqDiff, Nat.reduceAdd, beq_self_eq_true, beq_true, beq_false, Bool.false_eq_true])
        refine LoopF.by (α := Nat × Int) (fun x => ⟨[(0, bodyv l), (1, i64 x.2), (5, i64 i), (6, i64 x.1)], h⟩) (fun x => s.args.length - x.1)
          (fun x => x.1 ≤ s.args.length ∧ -(2 ^ 60) ≤ x.2 ∧ x.2 ≤ 2 ^ 60 ∧ fewA (s.args.drop x.1) x.2 = A) (0, m - 1 - (s.args.length : Int) - (s.name.size : Int)) ⟨by omega, by simp only; omega, by simp only; omega, by simpa using hA⟩ (weak_of (by simp) (by simp [look])) ?_
        rintro ⟨j, q⟩ ⟨hj1, hq0, hq1, hj2⟩
        simp only at hj1 hq0 hq1 hj2
        have fin : ∀ (ev : q = A), True := fun _ => trivial
        by_cases hj : j < s.args.length
        · have f1 : decide ((j : Int) < (s.args.length : Int)) = true := by rw [decide_eq_true_eq]; omega
          cases f2 : decide ((0 : Int) ≤ q)
          · rw [decide_eq_false_iff_not] at f2
            rw [fewA_neg (by omega)] at hj2
            subst hj2
            have f2' : decide ((0 : Int) ≤ q) = false := by rw [decide_eq_false_iff_not]; exact f2
            simp only [List.length_map, ne_eq, not_false_eq_true, Option.map_some, Option.map_none, List.map_cons, List.map_nil, Bool.not_true, Bool.not_false, decide_true, decide_false, List.getElem?_cons_zero, List.getElem?_cons_succ, ↓aw1, ↓aw2, ↓aw17, aw3, aw4, aw5, aw6, aw7, aw8, aw9, aw10, aw11, aw12, aw13, aw14, aw15, aw16, aw19, Nat.reduceLeDiff, if_true, if_false, Nat.reduceEqDiff, Nat.reduceAdd, beq_self_eq_true, beq_true, beq_false, Bool.false_eq_true]
            repeat (refine Need.mk ⟨by omega, by first | omega | (simp; omega)⟩ (Elem.recs hg (by rw [stmtv_eq]; exact ⟨rfl, rfl⟩) ?_); simp only [stmtv_eq, f1, f2', List.length_map, List.take_succ_cons, List.take_zero, List.drop_zero, List.drop_succ_cons, ne_eq, not_false_eq_true, Option.map_some, Option.map_none, List.map_cons, List.map_nil, Bool.not_true, Bool.not_false, decide_true, decide_false, List.getElem?_cons_zero, List.getElem?_cons_succ, ↓aw1, ↓aw2, ↓aw17, aw3, aw4, aw5, aw6, aw7, aw8, aw9, aw10, aw11, aw12, aw13, aw14, aw15, aw16, aw19, Nat.reduceLeDiff, if_true, if_false, Nat.reduceEqDiff, Nat.reduceAdd, beq_self_eq_true, beq_true, beq_false, Bool.false_eq_true])
            (refine EvF.ret (ih (szL s.thn) (by omega) s.thn (Nat.le_refl _) (by omega) q (by omega) (by omega) h) ?_; simp only [stmtv_eq, List.length_map, List.take_succ_cons, List.take_zero, List.drop_zero, List.drop_succ_cons, ne_eq, not_false_eq_true, Option.map_some, Option.map_none, List.map_cons, List.map_nil, Bool.not_true, Bool.not_false, decide_true, decide_false, List.getElem?_cons_zero, List.getElem?_cons_succ, ↓aw1, ↓aw2, ↓aw17, aw3, aw4, aw5, aw6, aw7, aw8, aw9, aw10, aw11, aw12, aw13, aw14, aw15, aw16, aw19, Nat.reduceLeDiff, if_true, if_false, Nat.reduceEqDiff, Nat.reduceAdd, beq_self_eq_true, beq_true, beq_false, Bool.false_eq_true]; repeat (refine Need.mk ⟨by omega, by first | omega | (simp; omega)⟩ (Elem.recs hg (by rw [stmtv_eq]; exact ⟨rfl, rfl⟩) ?_); simp only [stmtv_eq, List.length_map, List.take_succ_cons, List.take_zero, List.drop_zero, List.drop_succ_cons, ne_eq, not_false_eq_true, Option.map_some, Option.map_none, List.map_cons, List.map_nil, Bool.not_true, Bool.not_false, decide_true, decide_false, List.getElem?_cons_zero, List.getElem?_cons_succ, ↓aw1, ↓aw2, ↓aw17, aw3, aw4, aw5, aw6, aw7, aw8, aw9, aw10, aw11, aw12, aw13, aw14, aw15, aw16, aw19, Nat.reduceLeDiff, if_true, if_false, Nat.reduceEqDiff, Nat.reduceAdd, beq_self_eq_true, beq_true, beq_false, Bool.false_eq_true]); refine EvF.ret (ih (szL s.els) (by omega) s.els (Nat.le_refl _) (by omega) _ (by omega) (by omega) h) ?_; simp only [w3, ne_eq, not_false_eq_true, Option.map_some, Option.map_none, List.map_cons, List.map_nil, Bool.not_true, Bool.not_false, decide_true, decide_false, List.getElem?_cons_zero, List.getElem?_cons_succ, ↓aw1, ↓aw2, ↓aw17, aw3, aw4, aw5, aw6, aw7, aw8, aw9, aw10, aw11, aw12, aw13, aw14, aw15, aw16, aw19, Nat.reduceLeDiff, if_true, if_false, Nat.reduceEqDiff, Nat.reduceAdd, beq_self_eq_true, beq_true, beq_false, Bool.false_eq_true]; exact ⟨(i + 1, _), ⟨by simp only; omega, by simp only; omega, by simp only; omega, h2⟩, by simp only; omega, weak_of (by simp) (by simp [look])⟩)
          · obtain ⟨a, ha⟩ : ∃ a, s.args[j]? = some a := ⟨_, List.getElem?_eq_getElem hj⟩
            have w4 : IntKind.i64.wrap ((j : Int) + 1) = ((j + 1 : Nat) : Int) := by rw [wrap_i64] <;> omega
            have ham := mxA_mem (List.mem_of_getElem? ha)
            rw [drop_get ha] at hj2
            rw [decide_eq_true_eq] at f2
            simp only [fewA, if_neg (show ¬ q < 0 by omega)] at hj2
            have f2' : decide ((0 : Int) ≤ q) = true := by rw [decide_eq_true_eq]; exact f2
            have wq : IntKind.i64.wrap (q - (a.s.size : Int)) = q - (a.s.size : Int) := aw_i64 _ (by omega) (by omega)
            have hga := map_get argv s.args j a ha
            simp only [List.length_map, ne_eq, not_false_eq_true, Option.map_some, Option.map_none, List.map_cons, List.map_nil, Bool.not_true, Bool.not_false, decide_true, decide_false, List.getElem?_cons_zero, List.getElem?_cons_succ, ↓aw1, ↓aw2, ↓aw17, aw3, aw4, aw5, aw6, aw7, aw8, aw9, aw10, aw11, aw12, aw13, aw14, aw15, aw16, aw19, Nat.reduceLeDiff, if_true, if_false, Nat.reduceEqDiff, Nat.reduceAdd, beq_self_eq_true, beq_true, beq_false, Bool.false_eq_true]
            repeat (refine Need.mk ⟨by omega, by first | omega | (simp; omega)⟩ (Elem.recs hg (by rw [stmtv_eq]; exact ⟨rfl, rfl⟩) ?_); simp only [stmtv_eq, f1, f2', List.length_map, List.take_succ_cons, List.take_zero, List.drop_zero, List.drop_succ_cons, ne_eq, not_false_eq_true, Option.map_some, Option.map_none, List.map_cons, List.map_nil, Bool.not_true, Bool.not_false, decide_true, decide_false, List.getElem?_cons_zero, List.getElem?_cons_succ, ↓aw1, ↓aw2, ↓aw17, aw3, aw4, aw5, aw6, aw7, aw8, aw9, aw10, aw11, aw12, aw13, aw14, aw15, aw16, aw19, Nat.reduceLeDiff, if_true, if_false, Nat.reduceEqDiff, Nat.reduceAdd, beq_self_eq_true, beq_true, beq_false, Bool.false_eq_true])
            repeat (refine Need.mk ⟨by omega, by first | omega | (simp; omega)⟩ (Elem.recs hga ⟨rfl, rfl⟩ ?_)
                    simp only [argv, wq, w4, List.length_map, List.take_succ_cons, List.take_zero, List.drop_zero, List.drop_succ_cons, ne_eq, not_false_eq_true, Option.map_some, Option.map_none, List.map_cons, List.map_nil, Bool.not_true, Bool.not_false, decide_true, decide_false, List.getElem?_cons_zero, List.getElem?_cons_succ, ↓aw1, ↓aw2, ↓aw17, aw3, aw4, aw5, aw6, aw7, aw8, aw9, aw10, aw11, aw12, aw13, aw14, aw15, aw16, aw19, Nat.reduceLeDiff, if_true, if_false, Nat.reduceEqDiff, Nat.reduceAdd, beq_self_eq_true, beq_true, beq_false, Bool.false_eq_true])
            exact ⟨(j + 1, q - (a.s.size : Int)), ⟨by simp only; omega, by simp only; omega, by simp only; omega, hj2⟩, by simp only; omega, weak_of (by simp) (by simp [look])⟩
        · have f1 : decide ((j : Int) < (s.args.length : Int)) = false := by rw [decide_eq_false_iff_not]; omega
          rw [List.drop_eq_nil_of_le (by omega)] at hj2
          simp only [fewA] at hj2
          subst hj2
          simp only [List.length_map, ne_eq, not_false_eq_true, Option.map_some, Option.map_none, List.map_cons, List.map_nil, Bool.not_true, Bool.not_false, decide_true, decide_false, List.getElem?_cons_zero, List.getElem?_cons_succ, ↓aw1, ↓aw2, ↓aw17, aw3, aw4, aw5, aw6, aw7, aw8, aw9, aw10, aw11, aw12, aw13, aw14, aw15, aw16, aw19, Nat.reduceLeDiff, if_true, if_false, Nat.reduceEqDiff, Nat.reduceAdd, beq_self_eq_true, beq_true, beq_false, Bool.false_eq_true]
          repeat (refine Need.mk ⟨by omega, by first | omega | (simp; omega)⟩ (Elem.recs hg (by rw [stmtv_eq]; exact ⟨rfl, rfl⟩) ?_); simp only [stmtv_eq, f1, List.length_map, List.take_succ_cons, List.take_zero, List.drop_zero, List.drop_succ_cons, ne_eq, not_false_eq_true, Option.map_some, Option.map_none, List.map_cons, List.map_nil, Bool.not_true, Bool.not_false, decide_true, decide_false, List.getElem?_cons_zero, List.getElem?_cons_succ, ↓aw1, ↓aw2, ↓aw17, aw3, aw4, aw5, aw6, aw7, aw8, aw9, aw10, aw11, aw12, aw13, aw14, aw15, aw16, aw19, Nat.reduceLeDiff, if_true, if_false, Nat.reduceEqDiff, Nat.reduceAdd, beq_self_eq_true, beq_true, beq_false, Bool.false_eq_true])
          (refine EvF.ret (ih (szL s.thn) (by omega) s.thn (Nat.le_refl _) (by omega) q (by omega) (by omega) h) ?_; simp only [stmtv_eq, List.length_map, List.take_succ_cons, List.take_zero, List.drop_zero, List.drop_succ_cons, ne_eq, not_false_eq_true, Option.map_some, Option.map_none, List.map_cons, List.map_nil, Bool.not_true, Bool.not_false, decide_true, decide_false, List.getElem?_cons_zero, List.getElem?_cons_succ, ↓aw1, ↓aw2, ↓aw17, aw3, aw4, aw5, aw6, aw7, aw8, aw9, aw10, aw11, aw12, aw13, aw14, aw15, aw16, aw19, Nat.reduceLeDiff, if_true, if_false, Nat.reduceEqDiff, Nat.reduceAdd, beq_self_eq_true, beq_true, beq_false, Bool.false_eq_true]; repeat (refine Need.mk ⟨by omega, by first | omega | (simp; omega)⟩ (Elem.recs hg (by rw [stmtv_eq]; exact ⟨rfl, rfl⟩) ?_); simp only [stmtv_eq, List.length_map, List.take_succ_cons, List.take_zero, List.drop_zero, List.drop_succ_cons, ne_eq, not_false_eq_true, Option.map_some, Option.map_none, List.map_cons, List.map_nil, Bool.not_true, Bool.not_false, decide_true, decide_false, List.getElem?_cons_zero, List.getElem?_cons_succ, ↓aw1, ↓aw2, ↓aw17, aw3, aw4, aw5, aw6, aw7, aw8, aw9, aw10, aw11, aw12, aw13, aw14, aw15, aw16, aw19, Nat.reduceLeDiff, if_true, if_false, Nat.reduceEqDiff, Nat.reduceAdd, beq_self_eq_true, beq_true, beq_false, Bool.false_eq_true]); refine EvF.ret (ih (szL s.els) (by omega) s.els (Nat.le_refl _) (by omega) _ (by omega) (by omega) h) ?_; simp only [w3, ne_eq, not_false_eq_true, Option.map_some, Option.map_none, List.map_cons, List.map_nil, Bool.not_true, Bool.not_false, decide_true, decide_false, List.getElem?_cons_zero, List.getElem?_cons_succ, ↓aw1, ↓aw2, ↓aw17, aw3, aw4, aw5, aw6, aw7, aw8, aw9, aw10, aw11, aw12, aw13, aw14, aw15, aw16, aw19, Nat.reduceLeDiff, if_true, if_false, Nat.reduceEqDiff, Nat.reduceAdd, beq_self_eq_true, beq_true, beq_false, Bool.false_eq_true]; exact ⟨(i + 1, _), ⟨by simp only; omega, by simp only; omega, by simp only; omega, h2⟩, by simp only; omega, weak_of (by simp) (by simp [look])⟩)
    · have e1 : decide ((i : Int) < (l.length : Int)) = false := by rw [decide_eq_false_iff_not]; omega
      rw [List.drop_eq_nil_of_le (by omega)] at h2
      simp only [fewL] at h2
      subst h2
      simp only [e1, List.length_map, ne_eq, not_false_eq_true, Option.map_some, Option.map_none, List.map_cons, List.map_nil, Bool.not_true, Bool.not_false, decide_true, decide_false, List.getElem?_cons_zero, List.getElem?_cons_succ, ↓aw1, ↓aw2, ↓aw17, aw3, aw4, aw5, aw6, aw7, aw8, aw9, aw10, aw11, aw12, aw13, aw14, aw15, aw16, aw19, Nat.reduceLeDiff, if_true, if_false, Nat.reduceEqDiff, Nat.reduceAdd, beq_self_eq_true, beq_true, beq_false, Bool.false_eq_true]
      exact Fin.same0 hcl rfl ⟨rfl, rfl⟩

theorem isfew_ev (l : List Fun) (hmx : mxF l ≤ 2 ^ 48) (n : Int) (hn0 : 0 ≤ n) (hn1 : n ≤ 2 ^ 60) (h : List AObj) : EvR E0 8 [funsv l, i64 n] h (boolv (decide (0 ≤ fewF l n))) := by
  refine ev_of (fn := Tryd.f8) (hs := []) Tryd.func8 c8 (by simp) fun hcl => ?_
  have hlen := mxF_len l
  generalize hR : fewF l n = R
  simp only [ac8, List.length_map, ne_eq, not_false_eq_true, Option.map_some, Option.map_none, List.map_cons, List.map_nil, Bool.not_true, Bool.not_false, decide_true, decide_false, List.getElem?_cons_zero, List.getElem?_cons_succ, ↓aw1, ↓aw2, ↓aw17, aw3, aw4, aw5, aw6, aw7, aw8, aw9, aw10, aw11, aw12, aw13, aw14, aw15, aw16, aw19, Nat.reduceLeDiff, if_true, if_false, Nat.reduceEqDiff, Nat.reduceAdd, beq_self_eq_true, beq_true, beq_false, Bool.false_eq_true]
  refine LoopF.by (α := Nat × Int) (fun x => ⟨[(0, funsv l), (1, i64 x.2), (5, i64 x.1)], h⟩) (fun x => l.length - x.1)
    (fun x => x.1 ≤ l.length ∧ -(2 ^ 60) ≤ x.2 ∧ x.2 ≤ 2 ^ 60 ∧ fewF (l.drop x.1) x.2 = R) (0, n) ⟨by omega, by simp only; omega, hn1, by simpa using hR⟩ (weak_of (by simp) (by simp [look])) ?_
  rintro ⟨i, m⟩ ⟨h1, hm0, hm1, h2⟩
  simp only at h1 hm0 hm1 h2
  by_cases hi : i < l.length
  · have e1 : decide ((i : Int) < (l.length : Int)) = true := by rw [decide_eq_true_eq]; omega
    cases e2 : decide ((0 : Int) ≤ m)
    · simp only [e1, e2, List.length_map, ne_eq, not_false_eq_true, Option.map_some, Option.map_none, List.map_cons, List.map_nil, Bool.not_true, Bool.not_false, decide_true, decide_false, List.getElem?_cons_zero, List.getElem?_cons_succ, ↓aw1, ↓aw2, ↓aw17, aw3, aw4, aw5, aw6, aw7, aw8, aw9, aw10, aw11, aw12, aw13, aw14, aw15, aw16, aw19, Nat.reduceLeDiff, if_true, if_false, Nat.reduceEqDiff, Nat.reduceAdd, beq_self_eq_true, beq_true, beq_false, Bool.false_eq_true]
      have e3 := e2
      rw [decide_eq_false_iff_not] at e2
      rw [fewF_neg (by omega)] at h2
      subst h2
      exact Fin.same0 hcl rfl ⟨by simp only [e3], rfl⟩
    · obtain ⟨s, hs⟩ : ∃ s, l[i]? = some s := ⟨_, List.getElem?_eq_getElem hi⟩
      have w3 : IntKind.i64.wrap ((i : Int) + 1) = ((i + 1 : Nat) : Int) := by rw [wrap_i64] <;> omega
      have hmem := List.mem_of_getElem? hs
      have hmxm := mxF_mem hmem
      rw [decide_eq_true_eq] at e2
      have hb := fewL_bounds (M := 2 ^ 48) s.body (m - 1 - s.name.size) (by omega)
      rw [drop_get hs] at h2
      simp only [fewF, if_neg (show ¬ m < 0 by omega)] at h2
      have wm1 : IntKind.i64.wrap (m - 1) = m - 1 := aw_i64 _ (by omega) (by omega)
      have wm2 : IntKind.i64.wrap (m - 1 - (s.name.size : Int)) = m - 1 - (s.name.size : Int) := aw_i64 _ (by omega) (by omega)
      have e2' : decide ((0 : Int) ≤ m) = true := by rw [decide_eq_true_eq]; exact e2
      have hg := map_get funv l i s hs
      simp only [e1, e2', List.length_map, ne_eq, not_false_eq_true, Option.map_some, Option.map_none, List.map_cons, List.map_nil, Bool.not_true, Bool.not_false, decide_true, decide_false, List.getElem?_cons_zero, List.getElem?_cons_succ, ↓aw1, ↓aw2, ↓aw17, aw3, aw4, aw5, aw6, aw7, aw8, aw9, aw10, aw11, aw12, aw13, aw14, aw15, aw16, aw19, Nat.reduceLeDiff, if_true, if_false, Nat.reduceEqDiff, Nat.reduceAdd, beq_self_eq_true, beq_true, beq_false, Bool.false_eq_true]
      repeat (refine Need.mk ⟨by omega, by first | omega | (simp; omega)⟩ (Elem.recs hg ⟨rfl, rfl⟩ ?_)
              simp only [funv, wm1, wm2, List.length_map, List.take_succ_cons, List.take_zero, List.drop_zero, List.drop_succ_cons, ne_eq, not_false_eq_true, Option.map_some, Option.map_none, List.map_cons, List.map_nil, Bool.not_true, Bool.not_false, decide_true, decide_false, List.getElem?_cons_zero, List.getElem?_cons_succ, ↓aw1, ↓aw2, ↓aw17, aw3, aw4, aw5, aw6, aw7, aw8, aw9, aw10, aw11, aw12, aw13, aw14, aw15, aw16, aw19, Nat.reduceLeDiff, if_true, if_false, Nat.reduceEqDiff, Nat.reduceAdd, beq_self_eq_true, beq_true, beq_false, Bool.false_eq_true])
      refine EvRF.ret (few_ev _ s.body (Nat.le_refl _) (by omega) _ (by omega) (by omega) h) ?_
      simp only [w3, ne_eq, not_false_eq_true, Option.map_some, Option.map_none, List.map_cons, List.map_nil, Bool.not_true, Bool.not_false, decide_true, decide_false, List.getElem?_cons_zero, List.getElem?_cons_succ, ↓aw1, ↓aw2, ↓aw17, aw3, aw4, aw5, aw6, aw7, aw8, aw9, aw10, aw11, aw12, aw13, aw14, aw15, aw16, aw19, Nat.reduceLeDiff, if_true, if_false, Nat.reduceEqDiff, Nat.reduceAdd, beq_self_eq_true, beq_true, beq_false, Bool.false_eq_true]
      exact ⟨(i + 1, _), ⟨by simp only; omega, by simp only; omega, by simp only; omega, h2⟩, by simp only; omega, weak_of (by simp) (by simp [look])⟩
  · have e1 : decide ((i : Int) < (l.length : Int)) = false := by rw [decide_eq_false_iff_not]; omega
    rw [List.drop_eq_nil_of_le (by omega)] at h2
    simp only [fewF] at h2
    subst h2
    simp only [e1, List.length_map, ne_eq, not_false_eq_true, Option.map_some, Option.map_none, List.map_cons, List.map_nil, Bool.not_true, Bool.not_false, decide_true, decide_false, List.getElem?_cons_zero, List.getElem?_cons_succ, ↓aw1, ↓aw2, ↓aw17, aw3, aw4, aw5, aw6, aw7, aw8, aw9, aw10, aw11, aw12, aw13, aw14, aw15, aw16, aw19, Nat.reduceLeDiff, if_true, if_false, Nat.reduceEqDiff, Nat.reduceAdd, beq_self_eq_true, beq_true, beq_false, Bool.false_eq_true]
    exact Fin.same0 hcl rfl ⟨rfl, rfl⟩
end Go.Abs.Fr
