/- The text of a fragment: statements, functions. -/
import Derived.Test.YtgbedffflggenaaDoorFrW
set_option linter.all false
namespace Go.Abs.Fr
open Go Go.Abs Go.Proofs
set_option linter.unusedSimpArgs false
set_option maxRecDepth 100000

theorem stmtT_eq (t : Nat) (s : Stmt) : stmtT t s = lineT t (headT s) ++ (if decide (s.op = 1) || decide (s.op = 2) then [] else stmtsT (t + 1) s.thn ++ ((if s.els.length = 0 then [] else lineT t [[125, 32, 101, 108, 115, 101, 32, 123]] ++ stmtsT (t + 1) s.els) ++ lineT t [[125]])) := by
  cases s; simp only [stmtT]; rfl
theorem stmtsT_append (t : Nat) : ∀ (l l' : List Stmt), stmtsT t (l ++ l') = stmtsT t l ++ stmtsT t l'
  | [], l' => by simp [stmtsT]
  | s :: l, l' => by simp only [List.cons_append, stmtsT, stmtsT_append t l l', List.append_assoc]
theorem stmtsT_snoc (t : Nat) (l : List Stmt) (i : Nat) (s : Stmt) (h : l[i]? = some s) : stmtsT t (l.take (i + 1)) = stmtsT t (l.take i) ++ stmtT t s := by
  obtain ⟨hi, he⟩ := List.getElem?_eq_some_iff.1 h
  rw [List.take_succ_eq_append_getElem hi, he, stmtsT_append]; simp [stmtsT]
theorem stmtsT_le (t : Nat) (l : List Stmt) (i : Nat) : (stmtsT t (l.take i)).length ≤ (stmtsT t l).length := by
  conv => rhs; rw [← List.take_append_drop i l, stmtsT_append]
  simp
theorem lineT_len (t : Nat) (l : List (List UInt8)) : (lineT t l).length = t + l.flatten.length + 1 := by simp [lineT]; omega

theorem hsetJ {h : List AObj} {id : Nat} (hid : id < h.length) (X : AObj) (J : List AObj) : ((h.set id X) ++ J)[id]? = some X := by
  rw [List.getElem?_append_left (by simpa using hid)]; exact hset hid X
theorem hsetJ2 {h : List AObj} {id : Nat} (hid : id < h.length) (X Y : AObj) (J : List AObj) : ((h.set id X) ++ J).set id Y = (h.set id Y) ++ J := by
  rw [List.set_append_left _ _ (by simpa using hid), hset2]
theorem hsetJ0 {h : List AObj} {id : Nat} (hid : id < h.length) (Y : AObj) (J : List AObj) : (h ++ J).set id Y = (h.set id Y) ++ J := List.set_append_left _ _ hid
theorem hgetJ {h : List AObj} {id : Nat} {X : AObj} (hid : h[id]? = some X) (J : List AObj) : (h ++ J)[id]? = some X := by
  rw [List.getElem?_append_left (List.getElem?_eq_some_iff.1 hid).1]; exact hid
theorem hlast {h : List AObj} {id : Nat} (X o : AObj) : ((h.set id X) ++ [o])[h.length]? = some o := by
  rw [List.getElem?_append_right (by simp)]; simp

/-- What the statements are written as, at the object that writes. -/
def Below25 (l : List Stmt) : Prop := ∀ (h : List AObj) (id : Nat) (out : List UInt8) (t : Nat), h[id]? = some (wr out t) → out.length + (stmtsT (t + 1) l).length ≤ 140737488355328 → t + 2 * szL l < 2 ^ 40 →
  Ev E0 25 [.ref id 0, bodyv l] h (fun r h' => r = .ret (.tup []) ∧ h' = h.set id (wr (out ++ stmtsT (t + 1) l) t))

set_option maxHeartbeats 4000000 in
theorem stmtw_ev (s : Stmt) (hw : wS s < 2 ^ 30) (ihT : Below25 s.thn) (ihE : Below25 s.els) (h : List AObj) (id : Nat) (out : List UInt8) (t : Nat) (hid : h[id]? = some (wr out t))
    (hlen : out.length + (stmtT t s).length ≤ 140737488355328) (ht : t + 2 * szS s ≤ 2 ^ 40) :
    Ev E0 48 [.ref id 0, stmtv s] h (fun r h' => r = .ret (.tup []) ∧ h' = h.set id (wr (out ++ stmtT t s) t)) := by
  refine ev_of (fn := Tryd.f48) (hs := []) Tryd.func48 c48 (by simp) fun hcl => ?_
  have hidl : id < h.length := (List.getElem?_eq_some_iff.1 hid).1
  have hss := szS_eq s
  rw [stmtT_eq, List.length_append, lineT_len] at hlen
  rw [stmtT_eq]
  have hcall := fun h => call_ev s hw h
  simp only [stmtv_eq] at hcall
  simp only [ac48, stmtv_eq, last_obj, List.drop_zero, List.drop_succ_cons, ne_eq, not_false_eq_true, Option.map_some, Option.map_none, List.map_cons, List.map_nil, Bool.not_true, Bool.not_false, decide_true, decide_false, List.getElem?_cons_zero, List.getElem?_cons_succ, ↓aw1, ↓aw2, ↓aw17, aw3, aw4, aw5, aw6, aw7, aw8, aw9, aw10, aw11, aw12, aw13, aw14, aw15, aw16, aw19, Nat.reduceLeDiff, if_true, if_false, Nat.reduceEqDiff, Nat.reduceAdd, beq_self_eq_true, beq_true, beq_false, Bool.false_eq_true]
  cases k1 : decide (s.op = 1)
  · cases k2 : decide (s.op = 2)
    · have hh : headT s = (if decide (s.op = 4) then [[102, 111, 114, 32], callT s, [32, 123]] else [[105, 102, 32], callT s, [32, 123]]) := by simp only [headT, k1, k2, Bool.false_eq_true, if_false]
      rw [hh] at hlen ⊢
      cases k4 : decide (s.op = 4)
      · skip
        simp only [k1, k2, k4, Bool.or_self, Bool.false_eq_true, if_false, if_true] at hlen
        simp only [k1, k2, k4, last_obj, List.take_succ_cons, List.take_zero, List.drop_zero, List.drop_succ_cons, Bool.or_self, ne_eq, not_false_eq_true, Option.map_some, Option.map_none, List.map_cons, List.map_nil, Bool.not_true, Bool.not_false, decide_true, decide_false, List.getElem?_cons_zero, List.getElem?_cons_succ, ↓aw1, ↓aw2, ↓aw17, aw3, aw4, aw5, aw6, aw7, aw8, aw9, aw10, aw11, aw12, aw13, aw14, aw15, aw16, aw19, Nat.reduceLeDiff, if_true, if_false, Nat.reduceEqDiff, Nat.reduceAdd, beq_self_eq_true, beq_true, beq_false, Bool.false_eq_true]
        refine EvF.ret (hcall _) ?_
        simp only [ne_eq, not_false_eq_true, Option.map_some, Option.map_none, List.map_cons, List.map_nil, Bool.not_true, Bool.not_false, decide_true, decide_false, List.getElem?_cons_zero, List.getElem?_cons_succ, ↓aw1, ↓aw2, ↓aw17, aw3, aw4, aw5, aw6, aw7, aw8, aw9, aw10, aw11, aw12, aw13, aw14, aw15, aw16, aw19, Nat.reduceLeDiff, if_true, if_false, Nat.reduceEqDiff, Nat.reduceAdd, beq_self_eq_true, beq_true, beq_false, Bool.false_eq_true]
        refine Need.mk ⟨rfl, by decide, by decide, fun p hp => by
          simp only [List.mem_cons, List.not_mem_nil, or_false] at hp
          rcases hp with rfl | rfl | rfl <;> exact ⟨rfl, rfl, rfl⟩⟩ ?_
        simp only [ne_eq, not_false_eq_true, Option.map_some, Option.map_none, List.map_cons, List.map_nil, Bool.not_true, Bool.not_false, decide_true, decide_false, List.getElem?_cons_zero, List.getElem?_cons_succ, ↓aw1, ↓aw2, ↓aw17, aw3, aw4, aw5, aw6, aw7, aw8, aw9, aw10, aw11, aw12, aw13, aw14, aw15, aw16, aw19, Nat.reduceLeDiff, if_true, if_false, Nat.reduceEqDiff, Nat.reduceAdd, beq_self_eq_true, beq_true, beq_false, Bool.false_eq_true]
        refine EvF.use (line_ev [[105, 102, 32], callT s, [32, 123]] (hgetJ hid _) (by simp) (by omega)) ?_
        rintro r h' ⟨rfl, rfl⟩
        simp only [hsetJ0 hidl, hlast, List.drop_zero, List.drop_succ_cons, ne_eq, not_false_eq_true, Option.map_some, Option.map_none, List.map_cons, List.map_nil, Bool.not_true, Bool.not_false, decide_true, decide_false, List.getElem?_cons_zero, List.getElem?_cons_succ, ↓aw1, ↓aw2, ↓aw17, aw3, aw4, aw5, aw6, aw7, aw8, aw9, aw10, aw11, aw12, aw13, aw14, aw15, aw16, aw19, Nat.reduceLeDiff, if_true, if_false, Nat.reduceEqDiff, Nat.reduceAdd, beq_self_eq_true, beq_true, beq_false, Bool.false_eq_true]
        refine EvF.use (ihT _ id _ t (hsetJ hidl _ _) (by simp only [List.length_append, lineT_len, List.length_replicate, List.length_cons, List.length_nil] at hlen ⊢; omega) (by omega)) ?_
        rintro r h' ⟨rfl, rfl⟩
        simp only [hsetJ2 hidl, hlast, List.drop_zero, List.drop_succ_cons, List.length_map, ne_eq, not_false_eq_true, Option.map_some, Option.map_none, List.map_cons, List.map_nil, Bool.not_true, Bool.not_false, decide_true, decide_false, List.getElem?_cons_zero, List.getElem?_cons_succ, ↓aw1, ↓aw2, ↓aw17, aw3, aw4, aw5, aw6, aw7, aw8, aw9, aw10, aw11, aw12, aw13, aw14, aw15, aw16, aw19, Nat.reduceLeDiff, if_true, if_false, Nat.reduceEqDiff, Nat.reduceAdd, beq_self_eq_true, beq_true, beq_false, Bool.false_eq_true]
        cases e0 : decide (s.els.length = 0)
        · have ez : ¬ s.els.length = 0 := by rw [decide_eq_false_iff_not] at e0; exact e0
          have eb : decide ((0 : Int) < (s.els.length : Int)) = true := by rw [decide_eq_true_eq]; omega
          rw [if_neg ez] at hlen
          simp only [eb, hsetJ2 hidl, hlast, List.drop_zero, List.drop_succ_cons, ne_eq, not_false_eq_true, Option.map_some, Option.map_none, List.map_cons, List.map_nil, Bool.not_true, Bool.not_false, decide_true, decide_false, List.getElem?_cons_zero, List.getElem?_cons_succ, ↓aw1, ↓aw2, ↓aw17, aw3, aw4, aw5, aw6, aw7, aw8, aw9, aw10, aw11, aw12, aw13, aw14, aw15, aw16, aw19, Nat.reduceLeDiff, if_true, if_false, Nat.reduceEqDiff, Nat.reduceAdd, beq_self_eq_true, beq_true, beq_false, Bool.false_eq_true]
          refine Need.mk ⟨rfl, by decide, by decide, fun p hp => by simp only [List.mem_singleton] at hp; subst hp; exact ⟨rfl, rfl, rfl⟩⟩ ?_
          simp only [ne_eq, not_false_eq_true, Option.map_some, Option.map_none, List.map_cons, List.map_nil, Bool.not_true, Bool.not_false, decide_true, decide_false, List.getElem?_cons_zero, List.getElem?_cons_succ, ↓aw1, ↓aw2, ↓aw17, aw3, aw4, aw5, aw6, aw7, aw8, aw9, aw10, aw11, aw12, aw13, aw14, aw15, aw16, aw19, Nat.reduceLeDiff, if_true, if_false, Nat.reduceEqDiff, Nat.reduceAdd, beq_self_eq_true, beq_true, beq_false, Bool.false_eq_true]
          refine EvF.use (line_ev [[125, 32, 101, 108, 115, 101, 32, 123]] (hsetJ hidl _ _) (by simp) (by simp only [List.length_append, lineT_len, List.length_replicate, List.length_cons, List.length_nil] at hlen ⊢; omega)) ?_
          rintro r h' ⟨rfl, rfl⟩
          simp only [hsetJ2 hidl, hlast, List.drop_zero, List.drop_succ_cons, ne_eq, not_false_eq_true, Option.map_some, Option.map_none, List.map_cons, List.map_nil, Bool.not_true, Bool.not_false, decide_true, decide_false, List.getElem?_cons_zero, List.getElem?_cons_succ, ↓aw1, ↓aw2, ↓aw17, aw3, aw4, aw5, aw6, aw7, aw8, aw9, aw10, aw11, aw12, aw13, aw14, aw15, aw16, aw19, Nat.reduceLeDiff, if_true, if_false, Nat.reduceEqDiff, Nat.reduceAdd, beq_self_eq_true, beq_true, beq_false, Bool.false_eq_true]
          refine EvF.use (ihE _ id _ t (hsetJ hidl _ _) (by simp only [List.length_append, lineT_len, List.length_replicate, List.length_cons, List.length_nil] at hlen ⊢; omega) (by omega)) ?_
          rintro r h' ⟨rfl, rfl⟩
          simp only [hsetJ2 hidl, hlast, List.drop_zero, List.drop_succ_cons, ne_eq, not_false_eq_true, Option.map_some, Option.map_none, List.map_cons, List.map_nil, Bool.not_true, Bool.not_false, decide_true, decide_false, List.getElem?_cons_zero, List.getElem?_cons_succ, ↓aw1, ↓aw2, ↓aw17, aw3, aw4, aw5, aw6, aw7, aw8, aw9, aw10, aw11, aw12, aw13, aw14, aw15, aw16, aw19, Nat.reduceLeDiff, if_true, if_false, Nat.reduceEqDiff, Nat.reduceAdd, beq_self_eq_true, beq_true, beq_false, Bool.false_eq_true]
          refine Need.mk ⟨rfl, by decide, by decide, fun p hp => by simp only [List.mem_singleton] at hp; subst hp; exact ⟨rfl, rfl, rfl⟩⟩ ?_
          simp only [ne_eq, not_false_eq_true, Option.map_some, Option.map_none, List.map_cons, List.map_nil, Bool.not_true, Bool.not_false, decide_true, decide_false, List.getElem?_cons_zero, List.getElem?_cons_succ, ↓aw1, ↓aw2, ↓aw17, aw3, aw4, aw5, aw6, aw7, aw8, aw9, aw10, aw11, aw12, aw13, aw14, aw15, aw16, aw19, Nat.reduceLeDiff, if_true, if_false, Nat.reduceEqDiff, Nat.reduceAdd, beq_self_eq_true, beq_true, beq_false, Bool.false_eq_true]
          refine EvF.use (line_ev [[125]] (hsetJ hidl _ _) (by simp) (by simp only [List.length_append, lineT_len, List.length_replicate, List.length_cons, List.length_nil] at hlen ⊢; omega)) ?_
          rintro r h' ⟨rfl, rfl⟩
          simp only [hsetJ2 hidl, ne_eq, not_false_eq_true, Option.map_some, Option.map_none, List.map_cons, List.map_nil, Bool.not_true, Bool.not_false, decide_true, decide_false, List.getElem?_cons_zero, List.getElem?_cons_succ, ↓aw1, ↓aw2, ↓aw17, aw3, aw4, aw5, aw6, aw7, aw8, aw9, aw10, aw11, aw12, aw13, aw14, aw15, aw16, aw19, Nat.reduceLeDiff, if_true, if_false, Nat.reduceEqDiff, Nat.reduceAdd, beq_self_eq_true, beq_true, beq_false, Bool.false_eq_true]
          refine Fin.junk rfl (by simp) (closed_set hcl rfl) rfl ⟨rfl, ?_⟩
          simp only [k1, k2, k4, hh, if_neg ez, Bool.or_self, Bool.false_eq_true, if_false, if_true, lineT, List.append_assoc]
        · have ez : s.els.length = 0 := by rw [decide_eq_true_eq] at e0; exact e0
          have eb : decide ((0 : Int) < (s.els.length : Int)) = false := by rw [decide_eq_false_iff_not]; omega
          rw [if_pos ez] at hlen
          simp only [eb, hsetJ2 hidl, hlast, List.drop_zero, List.drop_succ_cons, ne_eq, not_false_eq_true, Option.map_some, Option.map_none, List.map_cons, List.map_nil, Bool.not_true, Bool.not_false, decide_true, decide_false, List.getElem?_cons_zero, List.getElem?_cons_succ, ↓aw1, ↓aw2, ↓aw17, aw3, aw4, aw5, aw6, aw7, aw8, aw9, aw10, aw11, aw12, aw13, aw14, aw15, aw16, aw19, Nat.reduceLeDiff, if_true, if_false, Nat.reduceEqDiff, Nat.reduceAdd, beq_self_eq_true, beq_true, beq_false, Bool.false_eq_true]
          refine Need.mk ⟨rfl, by decide, by decide, fun p hp => by simp only [List.mem_singleton] at hp; subst hp; exact ⟨rfl, rfl, rfl⟩⟩ ?_
          simp only [ne_eq, not_false_eq_true, Option.map_some, Option.map_none, List.map_cons, List.map_nil, Bool.not_true, Bool.not_false, decide_true, decide_false, List.getElem?_cons_zero, List.getElem?_cons_succ, ↓aw1, ↓aw2, ↓aw17, aw3, aw4, aw5, aw6, aw7, aw8, aw9, aw10, aw11, aw12, aw13, aw14, aw15, aw16, aw19, Nat.reduceLeDiff, if_true, if_false, Nat.reduceEqDiff, Nat.reduceAdd, beq_self_eq_true, beq_true, beq_false, Bool.false_eq_true]
          refine EvF.use (line_ev [[125]] (hsetJ hidl _ _) (by simp) (by simp only [List.length_append, lineT_len, List.length_replicate, List.length_cons, List.length_nil] at hlen ⊢; omega)) ?_
          rintro r h' ⟨rfl, rfl⟩
          simp only [hsetJ2 hidl, ne_eq, not_false_eq_true, Option.map_some, Option.map_none, List.map_cons, List.map_nil, Bool.not_true, Bool.not_false, decide_true, decide_false, List.getElem?_cons_zero, List.getElem?_cons_succ, ↓aw1, ↓aw2, ↓aw17, aw3, aw4, aw5, aw6, aw7, aw8, aw9, aw10, aw11, aw12, aw13, aw14, aw15, aw16, aw19, Nat.reduceLeDiff, if_true, if_false, Nat.reduceEqDiff, Nat.reduceAdd, beq_self_eq_true, beq_true, beq_false, Bool.false_eq_true]
          refine Fin.junk rfl (by simp) (closed_set hcl rfl) rfl ⟨rfl, ?_⟩
          simp only [k1, k2, k4, hh, if_pos ez, Bool.or_self, Bool.false_eq_true, if_false, if_true, lineT, List.append_assoc, List.nil_append]
      · skip
        simp only [k1, k2, k4, Bool.or_self, Bool.false_eq_true, if_false, if_true] at hlen
        simp only [k1, k2, k4, last_obj, List.take_succ_cons, List.take_zero, List.drop_zero, List.drop_succ_cons, Bool.or_self, ne_eq, not_false_eq_true, Option.map_some, Option.map_none, List.map_cons, List.map_nil, Bool.not_true, Bool.not_false, decide_true, decide_false, List.getElem?_cons_zero, List.getElem?_cons_succ, ↓aw1, ↓aw2, ↓aw17, aw3, aw4, aw5, aw6, aw7, aw8, aw9, aw10, aw11, aw12, aw13, aw14, aw15, aw16, aw19, Nat.reduceLeDiff, if_true, if_false, Nat.reduceEqDiff, Nat.reduceAdd, beq_self_eq_true, beq_true, beq_false, Bool.false_eq_true]
        refine EvF.ret (hcall _) ?_
        simp only [ne_eq, not_false_eq_true, Option.map_some, Option.map_none, List.map_cons, List.map_nil, Bool.not_true, Bool.not_false, decide_true, decide_false, List.getElem?_cons_zero, List.getElem?_cons_succ, ↓aw1, ↓aw2, ↓aw17, aw3, aw4, aw5, aw6, aw7, aw8, aw9, aw10, aw11, aw12, aw13, aw14, aw15, aw16, aw19, Nat.reduceLeDiff, if_true, if_false, Nat.reduceEqDiff, Nat.reduceAdd, beq_self_eq_true, beq_true, beq_false, Bool.false_eq_true]
        refine Need.mk ⟨rfl, by decide, by decide, fun p hp => by
          simp only [List.mem_cons, List.not_mem_nil, or_false] at hp
          rcases hp with rfl | rfl | rfl <;> exact ⟨rfl, rfl, rfl⟩⟩ ?_
        simp only [ne_eq, not_false_eq_true, Option.map_some, Option.map_none, List.map_cons, List.map_nil, Bool.not_true, Bool.not_false, decide_true, decide_false, List.getElem?_cons_zero, List.getElem?_cons_succ, ↓aw1, ↓aw2, ↓aw17, aw3, aw4, aw5, aw6, aw7, aw8, aw9, aw10, aw11, aw12, aw13, aw14, aw15, aw16, aw19, Nat.reduceLeDiff, if_true, if_false, Nat.reduceEqDiff, Nat.reduceAdd, beq_self_eq_true, beq_true, beq_false, Bool.false_eq_true]
        refine EvF.use (line_ev [[102, 111, 114, 32], callT s, [32, 123]] (hgetJ hid _) (by simp) (by omega)) ?_
        rintro r h' ⟨rfl, rfl⟩
        simp only [hsetJ0 hidl, hlast, List.drop_zero, List.drop_succ_cons, ne_eq, not_false_eq_true, Option.map_some, Option.map_none, List.map_cons, List.map_nil, Bool.not_true, Bool.not_false, decide_true, decide_false, List.getElem?_cons_zero, List.getElem?_cons_succ, ↓aw1, ↓aw2, ↓aw17, aw3, aw4, aw5, aw6, aw7, aw8, aw9, aw10, aw11, aw12, aw13, aw14, aw15, aw16, aw19, Nat.reduceLeDiff, if_true, if_false, Nat.reduceEqDiff, Nat.reduceAdd, beq_self_eq_true, beq_true, beq_false, Bool.false_eq_true]
        refine EvF.use (ihT _ id _ t (hsetJ hidl _ _) (by simp only [List.length_append, lineT_len, List.length_replicate, List.length_cons, List.length_nil] at hlen ⊢; omega) (by omega)) ?_
        rintro r h' ⟨rfl, rfl⟩
        simp only [hsetJ2 hidl, hlast, List.drop_zero, List.drop_succ_cons, List.length_map, ne_eq, not_false_eq_true, Option.map_some, Option.map_none, List.map_cons, List.map_nil, Bool.not_true, Bool.not_false, decide_true, decide_false, List.getElem?_cons_zero, List.getElem?_cons_succ, ↓aw1, ↓aw2, ↓aw17, aw3, aw4, aw5, aw6, aw7, aw8, aw9, aw10, aw11, aw12, aw13, aw14, aw15, aw16, aw19, Nat.reduceLeDiff, if_true, if_false, Nat.reduceEqDiff, Nat.reduceAdd, beq_self_eq_true, beq_true, beq_false, Bool.false_eq_true]
        cases e0 : decide (s.els.length = 0)
        · have ez : ¬ s.els.length = 0 := by rw [decide_eq_false_iff_not] at e0; exact e0
          have eb : decide ((0 : Int) < (s.els.length : Int)) = true := by rw [decide_eq_true_eq]; omega
          rw [if_neg ez] at hlen
          simp only [eb, hsetJ2 hidl, hlast, List.drop_zero, List.drop_succ_cons, ne_eq, not_false_eq_true, Option.map_some, Option.map_none, List.map_cons, List.map_nil, Bool.not_true, Bool.not_false, decide_true, decide_false, List.getElem?_cons_zero, List.getElem?_cons_succ, ↓aw1, ↓aw2, ↓aw17, aw3, aw4, aw5, aw6, aw7, aw8, aw9, aw10, aw11, aw12, aw13, aw14, aw15, aw16, aw19, Nat.reduceLeDiff, if_true, if_false, Nat.reduceEqDiff, Nat.reduceAdd, beq_self_eq_true, beq_true, beq_false, Bool.false_eq_true]
          refine Need.mk ⟨rfl, by decide, by decide, fun p hp => by simp only [List.mem_singleton] at hp; subst hp; exact ⟨rfl, rfl, rfl⟩⟩ ?_
          simp only [ne_eq, not_false_eq_true, Option.map_some, Option.map_none, List.map_cons, List.map_nil, Bool.not_true, Bool.not_false, decide_true, decide_false, List.getElem?_cons_zero, List.getElem?_cons_succ, ↓aw1, ↓aw2, ↓aw17, aw3, aw4, aw5, aw6, aw7, aw8, aw9, aw10, aw11, aw12, aw13, aw14, aw15, aw16, aw19, Nat.reduceLeDiff, if_true, if_false, Nat.reduceEqDiff, Nat.reduceAdd, beq_self_eq_true, beq_true, beq_false, Bool.false_eq_true]
          refine EvF.use (line_ev [[125, 32, 101, 108, 115, 101, 32, 123]] (hsetJ hidl _ _) (by simp) (by simp only [List.length_append, lineT_len, List.length_replicate, List.length_cons, List.length_nil] at hlen ⊢; omega)) ?_
          rintro r h' ⟨rfl, rfl⟩
          simp only [hsetJ2 hidl, hlast, List.drop_zero, List.drop_succ_cons, ne_eq, not_false_eq_true, Option.map_some, Option.map_none, List.map_cons, List.map_nil, Bool.not_true, Bool.not_false, decide_true, decide_false, List.getElem?_cons_zero, List.getElem?_cons_succ, ↓aw1, ↓aw2, ↓aw17, aw3, aw4, aw5, aw6, aw7, aw8, aw9, aw10, aw11, aw12, aw13, aw14, aw15, aw16, aw19, Nat.reduceLeDiff, if_true, if_false, Nat.reduceEqDiff, Nat.reduceAdd, beq_self_eq_true, beq_true, beq_false, Bool.false_eq_true]
          refine EvF.use (ihE _ id _ t (hsetJ hidl _ _) (by simp only [List.length_append, lineT_len, List.length_replicate, List.length_cons, List.length_nil] at hlen ⊢; omega) (by omega)) ?_
          rintro r h' ⟨rfl, rfl⟩
          simp only [hsetJ2 hidl, hlast, List.drop_zero, List.drop_succ_cons, ne_eq, not_false_eq_true, Option.map_some, Option.map_none, List.map_cons, List.map_nil, Bool.not_true, Bool.not_false, decide_true, decide_false, List.getElem?_cons_zero, List.getElem?_cons_succ, ↓aw1, ↓aw2, ↓aw17, aw3, aw4, aw5, aw6, aw7, aw8, aw9, aw10, aw11, aw12, aw13, aw14, aw15, aw16, aw19, Nat.reduceLeDiff, if_true, if_false, Nat.reduceEqDiff, Nat.reduceAdd, beq_self_eq_true, beq_true, beq_false, Bool.false_eq_true]
          refine Need.mk ⟨rfl, by decide, by decide, fun p hp => by simp only [List.mem_singleton] at hp; subst hp; exact ⟨rfl, rfl, rfl⟩⟩ ?_
          simp only [ne_eq, not_false_eq_true, Option.map_some, Option.map_none, List.map_cons, List.map_nil, Bool.not_true, Bool.not_false, decide_true, decide_false, List.getElem?_cons_zero, List.getElem?_cons_succ, ↓aw1, ↓aw2, ↓aw17, aw3, aw4, aw5, aw6, aw7, aw8, aw9, aw10, aw11, aw12, aw13, aw14, aw15, aw16, aw19, Nat.reduceLeDiff, if_true, if_false, Nat.reduceEqDiff, Nat.reduceAdd, beq_self_eq_true, beq_true, beq_false, Bool.false_eq_true]
          refine EvF.use (line_ev [[125]] (hsetJ hidl _ _) (by simp) (by simp only [List.length_append, lineT_len, List.length_replicate, List.length_cons, List.length_nil] at hlen ⊢; omega)) ?_
          rintro r h' ⟨rfl, rfl⟩
          simp only [hsetJ2 hidl, ne_eq, not_false_eq_true, Option.map_some, Option.map_none, List.map_cons, List.map_nil, Bool.not_true, Bool.not_false, decide_true, decide_false, List.getElem?_cons_zero, List.getElem?_cons_succ, ↓aw1, ↓aw2, ↓aw17, aw3, aw4, aw5, aw6, aw7, aw8, aw9, aw10, aw11, aw12, aw13, aw14, aw15, aw16, aw19, Nat.reduceLeDiff, if_true, if_false, Nat.reduceEqDiff, Nat.reduceAdd, beq_self_eq_true, beq_true, beq_false, Bool.false_eq_true]
          refine Fin.junk rfl (by simp) (closed_set hcl rfl) rfl ⟨rfl, ?_⟩
          simp only [k1, k2, k4, hh, if_neg ez, Bool.or_self, Bool.false_eq_true, if_false, if_true, lineT, List.append_assoc]
        · have ez : s.els.length = 0 := by rw [decide_eq_true_eq] at e0; exact e0
          have eb : decide ((0 : Int) < (s.els.length : Int)) = false := by rw [decide_eq_false_iff_not]; omega
          rw [if_pos ez] at hlen
          simp only [eb, hsetJ2 hidl, hlast, List.drop_zero, List.drop_succ_cons, ne_eq, not_false_eq_true, Option.map_some, Option.map_none, List.map_cons, List.map_nil, Bool.not_true, Bool.not_false, decide_true, decide_false, List.getElem?_cons_zero, List.getElem?_cons_succ, ↓aw1, ↓aw2, ↓aw17, aw3, aw4, aw5, aw6, aw7, aw8, aw9, aw10, aw11, aw12, aw13, aw14, aw15, aw16, aw19, Nat.reduceLeDiff, if_true, if_false, Nat.reduceEqDiff, Nat.reduceAdd, beq_self_eq_true, beq_true, beq_false, Bool.false_eq_true]
          refine Need.mk ⟨rfl, by decide, by decide, fun p hp => by simp only [List.mem_singleton] at hp; subst hp; exact ⟨rfl, rfl, rfl⟩⟩ ?_
          simp only [ne_eq, not_false_eq_true, Option.map_some, Option.map_none, List.map_cons, List.map_nil, Bool.not_true, Bool.not_false, decide_true, decide_false, List.getElem?_cons_zero, List.getElem?_cons_succ, ↓aw1, ↓aw2, ↓aw17, aw3, aw4, aw5, aw6, aw7, aw8, aw9, aw10, aw11, aw12, aw13, aw14, aw15, aw16, aw19, Nat.reduceLeDiff, if_true, if_false, Nat.reduceEqDiff, Nat.reduceAdd, beq_self_eq_true, beq_true, beq_false, Bool.false_eq_true]
          refine EvF.use (line_ev [[125]] (hsetJ hidl _ _) (by simp) (by simp only [List.length_append, lineT_len, List.length_replicate, List.length_cons, List.length_nil] at hlen ⊢; omega)) ?_
          rintro r h' ⟨rfl, rfl⟩
          simp only [hsetJ2 hidl, ne_eq, not_false_eq_true, Option.map_some, Option.map_none, List.map_cons, List.map_nil, Bool.not_true, Bool.not_false, decide_true, decide_false, List.getElem?_cons_zero, List.getElem?_cons_succ, ↓aw1, ↓aw2, ↓aw17, aw3, aw4, aw5, aw6, aw7, aw8, aw9, aw10, aw11, aw12, aw13, aw14, aw15, aw16, aw19, Nat.reduceLeDiff, if_true, if_false, Nat.reduceEqDiff, Nat.reduceAdd, beq_self_eq_true, beq_true, beq_false, Bool.false_eq_true]
          refine Fin.junk rfl (by simp) (closed_set hcl rfl) rfl ⟨rfl, ?_⟩
          simp only [k1, k2, k4, hh, if_pos ez, Bool.or_self, Bool.false_eq_true, if_false, if_true, lineT, List.append_assoc, List.nil_append]
    · have hh : headT s = [s.name.data.toList, [40, 99, 41]] := by simp only [headT, k1, k2, Bool.false_eq_true, if_false, if_true]
      rw [hh] at hlen
      simp only [k1, k2, Bool.or_true, if_true, List.length_nil, Nat.add_zero] at hlen
      simp only [k1, k2, last_obj, List.take_succ_cons, List.take_zero, List.drop_zero, List.drop_succ_cons, Bool.or_true, ne_eq, not_false_eq_true, Option.map_some, Option.map_none, List.map_cons, List.map_nil, Bool.not_true, Bool.not_false, decide_true, decide_false, List.getElem?_cons_zero, List.getElem?_cons_succ, ↓aw1, ↓aw2, ↓aw17, aw3, aw4, aw5, aw6, aw7, aw8, aw9, aw10, aw11, aw12, aw13, aw14, aw15, aw16, aw19, Nat.reduceLeDiff, if_true, if_false, Nat.reduceEqDiff, Nat.reduceAdd, beq_self_eq_true, beq_true, beq_false, Bool.false_eq_true]
      refine Need.mk ⟨rfl, by decide, by decide, fun p hp => by
        simp only [List.mem_cons, List.not_mem_nil, or_false] at hp
        rcases hp with rfl | rfl <;> exact ⟨rfl, rfl, rfl⟩⟩ ?_
      simp only [ne_eq, not_false_eq_true, Option.map_some, Option.map_none, List.map_cons, List.map_nil, Bool.not_true, Bool.not_false, decide_true, decide_false, List.getElem?_cons_zero, List.getElem?_cons_succ, ↓aw1, ↓aw2, ↓aw17, aw3, aw4, aw5, aw6, aw7, aw8, aw9, aw10, aw11, aw12, aw13, aw14, aw15, aw16, aw19, Nat.reduceLeDiff, if_true, if_false, Nat.reduceEqDiff, Nat.reduceAdd, beq_self_eq_true, beq_true, beq_false, Bool.false_eq_true]
      refine EvF.use (line_ev [s.name.data.toList, [40, 99, 41]] (hgetJ hid _) (by simp) (by omega)) ?_
      rintro r h' ⟨rfl, rfl⟩
      simp only [hsetJ0 hidl, ne_eq, not_false_eq_true, Option.map_some, Option.map_none, List.map_cons, List.map_nil, Bool.not_true, Bool.not_false, decide_true, decide_false, List.getElem?_cons_zero, List.getElem?_cons_succ, ↓aw1, ↓aw2, ↓aw17, aw3, aw4, aw5, aw6, aw7, aw8, aw9, aw10, aw11, aw12, aw13, aw14, aw15, aw16, aw19, Nat.reduceLeDiff, if_true, if_false, Nat.reduceEqDiff, Nat.reduceAdd, beq_self_eq_true, beq_true, beq_false, Bool.false_eq_true]
      exact Fin.junk rfl (by simp) (closed_set hcl rfl) rfl ⟨rfl, by simp only [hh, k1, k2, Bool.or_true, if_true, List.append_nil]; rfl⟩
  · have hh : headT s = [callT s] := by simp only [headT, k1, if_true]
    rw [hh] at hlen
    simp only [k1, Bool.true_or, if_true, List.length_nil, Nat.add_zero] at hlen
    simp only [k1, last_obj, List.take_succ_cons, List.take_zero, List.drop_zero, List.drop_succ_cons, Bool.true_or, ne_eq, not_false_eq_true, Option.map_some, Option.map_none, List.map_cons, List.map_nil, Bool.not_true, Bool.not_false, decide_true, decide_false, List.getElem?_cons_zero, List.getElem?_cons_succ, ↓aw1, ↓aw2, ↓aw17, aw3, aw4, aw5, aw6, aw7, aw8, aw9, aw10, aw11, aw12, aw13, aw14, aw15, aw16, aw19, Nat.reduceLeDiff, if_true, if_false, Nat.reduceEqDiff, Nat.reduceAdd, beq_self_eq_true, beq_true, beq_false, Bool.false_eq_true]
    refine EvF.ret (hcall _) ?_
    simp only [ne_eq, not_false_eq_true, Option.map_some, Option.map_none, List.map_cons, List.map_nil, Bool.not_true, Bool.not_false, decide_true, decide_false, List.getElem?_cons_zero, List.getElem?_cons_succ, ↓aw1, ↓aw2, ↓aw17, aw3, aw4, aw5, aw6, aw7, aw8, aw9, aw10, aw11, aw12, aw13, aw14, aw15, aw16, aw19, Nat.reduceLeDiff, if_true, if_false, Nat.reduceEqDiff, Nat.reduceAdd, beq_self_eq_true, beq_true, beq_false, Bool.false_eq_true]
    refine Need.mk ⟨rfl, by decide, by decide, fun p hp => by simp only [List.mem_singleton] at hp; subst hp; exact ⟨rfl, rfl, rfl⟩⟩ ?_
    simp only [ne_eq, not_false_eq_true, Option.map_some, Option.map_none, List.map_cons, List.map_nil, Bool.not_true, Bool.not_false, decide_true, decide_false, List.getElem?_cons_zero, List.getElem?_cons_succ, ↓aw1, ↓aw2, ↓aw17, aw3, aw4, aw5, aw6, aw7, aw8, aw9, aw10, aw11, aw12, aw13, aw14, aw15, aw16, aw19, Nat.reduceLeDiff, if_true, if_false, Nat.reduceEqDiff, Nat.reduceAdd, beq_self_eq_true, beq_true, beq_false, Bool.false_eq_true]
    refine EvF.use (line_ev [callT s] (hgetJ hid _) (by simp) (by omega)) ?_
    rintro r h' ⟨rfl, rfl⟩
    simp only [hsetJ0 hidl, ne_eq, not_false_eq_true, Option.map_some, Option.map_none, List.map_cons, List.map_nil, Bool.not_true, Bool.not_false, decide_true, decide_false, List.getElem?_cons_zero, List.getElem?_cons_succ, ↓aw1, ↓aw2, ↓aw17, aw3, aw4, aw5, aw6, aw7, aw8, aw9, aw10, aw11, aw12, aw13, aw14, aw15, aw16, aw19, Nat.reduceLeDiff, if_true, if_false, Nat.reduceEqDiff, Nat.reduceAdd, beq_self_eq_true, beq_true, beq_false, Bool.false_eq_true]
    exact Fin.junk rfl (by simp) (closed_set hcl rfl) rfl ⟨rfl, by simp only [hh, Bool.true_or, if_true, List.append_nil]; rfl⟩

theorem stmtsT_mem_le (t : Nat) (l : List Stmt) (i : Nat) (s : Stmt) (h : l[i]? = some s) : (stmtsT t (l.take i)).length + (stmtT t s).length ≤ (stmtsT t l).length := by
  have h1 := stmtsT_le t l (i + 1)
  rw [stmtsT_snoc t l i s h, List.length_append] at h1
  exact h1

theorem below_ev : ∀ (k : Nat) (l : List Stmt), szL l ≤ k → wL l < 2 ^ 30 → Below25 l := by
  intro k
  induction k using Nat.strongRecOn with
  | _ k ih =>
    intro l hk hw h id out t hid hlen ht
    refine ev_of (fn := Tryd.f25) (hs := []) Tryd.func25 c25 (by simp) fun hcl => ?_
    have hidl : id < h.length := (List.getElem?_eq_some_iff.1 hid).1
    have hll := wL_len l
    have wt : IntKind.i64.wrap ((t : Int) + 1) = ((t + 1 : Nat) : Int) := by rw [wrap_i64] <;> omega
    have wt2 : IntKind.i64.wrap (((t + 1 : Nat) : Int) - 1) = (t : Int) := by rw [wrap_i64] <;> omega
    have sm : ∀ x y : AV, ∀ o, setMany [AV.bp 48, AV.buf 5 o, x] 2 [y] = [AV.bp 48, AV.buf 5 o, y] := fun _ _ _ => rfl
    simp only [ac25, hid, wt, sm, List.length_map, List.drop_zero, List.drop_succ_cons, ne_eq, not_false_eq_true, Option.map_some, Option.map_none, List.map_cons, List.map_nil, Bool.not_true, Bool.not_false, decide_true, decide_false, List.getElem?_cons_zero, List.getElem?_cons_succ, ↓aw1, ↓aw2, ↓aw17, aw3, aw4, aw5, aw6, aw7, aw8, aw9, aw10, aw11, aw12, aw13, aw14, aw15, aw16, aw19, Nat.reduceLeDiff, if_true, if_false, Nat.reduceEqDiff, Nat.reduceAdd, beq_self_eq_true, beq_true, beq_false, Bool.false_eq_true]
    refine LoopF.by (α := Nat × List AObj) (fun x => ⟨[(0, .ref id 0), (13, bodyv l), (14, i64 l.length), (15, i64 x.1)], (h.set id (wr (out ++ stmtsT (t + 1) (l.take x.1)) (t + 1))) ++ x.2⟩) (fun x => l.length - x.1)
      (fun x => x.1 ≤ l.length) (0, []) (Nat.zero_le _) (weak_of (by simp only [List.take_zero, stmtsT, List.append_nil]) (by simp [look])) ?_
    rintro ⟨i, J⟩ h1
    simp only at h1
    by_cases hi : i < l.length
    · obtain ⟨s, hs⟩ : ∃ s, l[i]? = some s := ⟨_, List.getElem?_eq_getElem hi⟩
      have e1 : decide ((i : Int) < (l.length : Int)) = true := by rw [decide_eq_true_eq]; omega
      have w3 : IntKind.i64.wrap ((i : Int) + 1) = ((i + 1 : Nat) : Int) := by rw [wrap_i64] <;> omega
      have hmem := List.mem_of_getElem? hs
      have hws := wS_eq s
      have hwm := wL_mem hmem
      have hsz := szS_eq s
      have hsm := szL_mem hmem
      have hsn := stmtsT_snoc (t + 1) l i s hs
      have hle := stmtsT_mem_le (t + 1) l i s hs
      have hst := fun hh o hid hlen => stmtw_ev s (by omega) (ih (szL s.thn) (by omega) s.thn (Nat.le_refl _) (by omega)) (ih (szL s.els) (by omega) s.els (Nat.le_refl _) (by omega)) hh id o (t + 1) hid hlen (by omega)
      simp only [stmtv_eq] at hst
      simp only [e1, ne_eq, not_false_eq_true, Option.map_some, Option.map_none, List.map_cons, List.map_nil, Bool.not_true, Bool.not_false, decide_true, decide_false, List.getElem?_cons_zero, List.getElem?_cons_succ, ↓aw1, ↓aw2, ↓aw17, aw3, aw4, aw5, aw6, aw7, aw8, aw9, aw10, aw11, aw12, aw13, aw14, aw15, aw16, aw19, Nat.reduceLeDiff, if_true, if_false, Nat.reduceEqDiff, Nat.reduceAdd, beq_self_eq_true, beq_true, beq_false, Bool.false_eq_true]
      refine Need.mk ⟨by omega, by first | omega | (simp; omega)⟩ (Elem.recs (map_get stmtv l i s hs) (by rw [stmtv_eq]; exact ⟨rfl, rfl⟩) ?_)
      simp only [stmtv_eq, getJ, setJ, List.take_succ_cons, List.take_zero, List.drop_zero, List.drop_succ_cons, ne_eq, not_false_eq_true, Option.map_some, Option.map_none, List.map_cons, List.map_nil, Bool.not_true, Bool.not_false, decide_true, decide_false, List.getElem?_cons_zero, List.getElem?_cons_succ, ↓aw1, ↓aw2, ↓aw17, aw3, aw4, aw5, aw6, aw7, aw8, aw9, aw10, aw11, aw12, aw13, aw14, aw15, aw16, aw19, Nat.reduceLeDiff, if_true, if_false, Nat.reduceEqDiff, Nat.reduceAdd, beq_self_eq_true, beq_true, beq_false, Bool.false_eq_true]
      refine EvF.use (hst _ (out ++ stmtsT (t + 1) (l.take i)) (by rw [List.append_assoc]; exact hsetJ hidl _ _) (by rw [List.length_append]; omega)) ?_
      rintro r h' ⟨rfl, rfl⟩
      simp only [w3, ne_eq, not_false_eq_true, Option.map_some, Option.map_none, List.map_cons, List.map_nil, Bool.not_true, Bool.not_false, decide_true, decide_false, List.getElem?_cons_zero, List.getElem?_cons_succ, ↓aw1, ↓aw2, ↓aw17, aw3, aw4, aw5, aw6, aw7, aw8, aw9, aw10, aw11, aw12, aw13, aw14, aw15, aw16, aw19, Nat.reduceLeDiff, if_true, if_false, Nat.reduceEqDiff, Nat.reduceAdd, beq_self_eq_true, beq_true, beq_false, Bool.false_eq_true]
      refine ⟨(i + 1, J ++ [.cells [i64 s.op, str s.name, argsv s.args, bodyv s.thn, bodyv s.els]]), by simp only; omega, by simp only; omega, weak_of ?_ (by simp [look])⟩
      rw [List.append_assoc, hsetJ2 hidl, hsn, List.append_assoc]
    · have e1 : decide ((i : Int) < (l.length : Int)) = false := by rw [decide_eq_false_iff_not]; omega
      rw [List.take_of_length_le (by omega)]
      simp only [e1, hsetJ hidl, hsetJ2 hidl, wt2, sm, List.drop_zero, List.drop_succ_cons, ne_eq, not_false_eq_true, Option.map_some, Option.map_none, List.map_cons, List.map_nil, Bool.not_true, Bool.not_false, decide_true, decide_false, List.getElem?_cons_zero, List.getElem?_cons_succ, ↓aw1, ↓aw2, ↓aw17, aw3, aw4, aw5, aw6, aw7, aw8, aw9, aw10, aw11, aw12, aw13, aw14, aw15, aw16, aw19, Nat.reduceLeDiff, if_true, if_false, Nat.reduceEqDiff, Nat.reduceAdd, beq_self_eq_true, beq_true, beq_false, Bool.false_eq_true]
      exact Fin.junk rfl (by simp) (closed_set hcl rfl) rfl ⟨rfl, rfl⟩

/-! ### Text -/
def funT (f : Fun) : List UInt8 := lineT 0 [[102, 117, 110, 99, 32], f.name.data.toList, [40, 99, 32, 42, 67, 41, 32, 123]] ++ (stmtsT 1 f.body ++ lineT 0 [[125]])
def funsT (l : List Fun) : List UInt8 := l.flatMap funT
theorem funsT_snoc (l : List Fun) (i : Nat) (s : Fun) (h : l[i]? = some s) : funsT (l.take (i + 1)) = funsT (l.take i) ++ funT s := by
  obtain ⟨hi, he⟩ := List.getElem?_eq_some_iff.1 h
  rw [List.take_succ_eq_append_getElem hi, he]; simp [funsT]
theorem funsT_le (l : List Fun) (i : Nat) : (funsT (l.take i)).length ≤ (funsT l).length := by
  conv => rhs; rw [← List.take_append_drop i l, funsT, List.flatMap_append]
  simp [funsT]
theorem funsT_mem_le (l : List Fun) (i : Nat) (s : Fun) (h : l[i]? = some s) : (funsT (l.take i)).length + (funT s).length ≤ (funsT l).length := by
  have h1 := funsT_le l (i + 1)
  rw [funsT_snoc l i s h, List.length_append] at h1
  exact h1
def textT (l : List Fun) : List UInt8 := if okFs l then funsT l else []

theorem text_ev (l : List Fun) (hw : wF l < 2 ^ 30) (hlen : (funsT l).length ≤ 140737488355328) (h : List AObj) : EvR E0 11 [funsv l] h (str ⟨(textT l).toArray⟩) := by
  refine ev_of (fn := Tryd.f11) (hs := [(3, 0), (3, 1)]) Tryd.func11 c11 (by simp) fun hcl => ?_
  have hll := wF_len l
  simp only [ac11, ne_eq, not_false_eq_true, Option.map_some, Option.map_none, List.map_cons, List.map_nil, Bool.not_true, Bool.not_false, decide_true, decide_false, List.getElem?_cons_zero, List.getElem?_cons_succ, ↓aw1, ↓aw2, ↓aw17, aw3, aw4, aw5, aw6, aw7, aw8, aw9, aw10, aw11, aw12, aw13, aw14, aw15, aw16, aw19, Nat.reduceLeDiff, if_true, if_false, Nat.reduceEqDiff, Nat.reduceAdd, beq_self_eq_true, beq_true, beq_false, Bool.false_eq_true]
  refine EvF.ret (shaped_ev l (by omega) h) ?_
  cases hs : okFs l
  · simp only [ne_eq, not_false_eq_true, Option.map_some, Option.map_none, List.map_cons, List.map_nil, Bool.not_true, Bool.not_false, decide_true, decide_false, List.getElem?_cons_zero, List.getElem?_cons_succ, ↓aw1, ↓aw2, ↓aw17, aw3, aw4, aw5, aw6, aw7, aw8, aw9, aw10, aw11, aw12, aw13, aw14, aw15, aw16, aw19, Nat.reduceLeDiff, if_true, if_false, Nat.reduceEqDiff, Nat.reduceAdd, beq_self_eq_true, beq_true, beq_false, Bool.false_eq_true]
    exact Fin.same0 hcl rfl ⟨by simp [textT, hs], rfl⟩
  · simp only [aw18, List.length_map, ne_eq, not_false_eq_true, Option.map_some, Option.map_none, List.map_cons, List.map_nil, Bool.not_true, Bool.not_false, decide_true, decide_false, List.getElem?_cons_zero, List.getElem?_cons_succ, ↓aw1, ↓aw2, ↓aw17, aw3, aw4, aw5, aw6, aw7, aw8, aw9, aw10, aw11, aw12, aw13, aw14, aw15, aw16, aw19, Nat.reduceLeDiff, if_true, if_false, Nat.reduceEqDiff, Nat.reduceAdd, beq_self_eq_true, beq_true, beq_false, Bool.false_eq_true]
    refine LoopF.by (α := Nat × List AObj) (fun x => ⟨[(3, .ref h.length 0), (11, funsv l), (12, i64 l.length), (13, i64 x.1)], h ++ wr (funsT (l.take x.1)) 0 :: x.2⟩) (fun x => l.length - x.1)
      (fun x => x.1 ≤ l.length) (0, []) (Nat.zero_le _) (weak_of (by simp [funsT]) (by simp [look])) ?_
    rintro ⟨i, J⟩ h1
    simp only at h1
    by_cases hi : i < l.length
    · obtain ⟨s, hs⟩ : ∃ s, l[i]? = some s := ⟨_, List.getElem?_eq_getElem hi⟩
      have e1 : decide ((i : Int) < (l.length : Int)) = true := by rw [decide_eq_true_eq]; omega
      have w3 : IntKind.i64.wrap ((i : Int) + 1) = ((i + 1 : Nat) : Int) := by rw [wrap_i64] <;> omega
      have hmem := List.mem_of_getElem? hs
      have hwm := wF_mem hmem
      have hsn := funsT_snoc l i s hs
      have hle := funsT_mem_le l i s hs
      have hlb : ∀ (o : List UInt8) (J : List AObj), (h ++ wr o 0 :: J)[h.length]? = some (wr o 0) := fun o J => get0 h _ J
      have hls : ∀ (o o' : List UInt8) (J : List AObj), (h ++ wr o 0 :: J).set h.length (wr o' 0) = h ++ wr o' 0 :: J := fun o o' J => by
        rw [List.set_append_right _ _ (Nat.le_refl _)]; simp
      have happ : ∀ (o : List UInt8) (J : List AObj) (x : AObj), (h ++ wr o 0 :: J) ++ [x] = h ++ wr o 0 :: (J ++ [x]) := fun o J x => by simp
      rw [funT, List.length_append, List.length_append, lineT_len, lineT_len] at hle
      simp only [List.flatten_cons, List.flatten_nil, List.length_append, List.length_cons, List.length_nil] at hle
      simp only [e1, ne_eq, not_false_eq_true, Option.map_some, Option.map_none, List.map_cons, List.map_nil, Bool.not_true, Bool.not_false, decide_true, decide_false, List.getElem?_cons_zero, List.getElem?_cons_succ, ↓aw1, ↓aw2, ↓aw17, aw3, aw4, aw5, aw6, aw7, aw8, aw9, aw10, aw11, aw12, aw13, aw14, aw15, aw16, aw19, Nat.reduceLeDiff, if_true, if_false, Nat.reduceEqDiff, Nat.reduceAdd, beq_self_eq_true, beq_true, beq_false, Bool.false_eq_true]
      refine Need.mk ⟨by omega, by first | omega | (simp; omega)⟩ (Elem.recs (map_get funv l i s hs) ⟨rfl, rfl⟩ ?_)
      simp only [funv, getJ, setJ, List.take_succ_cons, List.take_zero, List.drop_zero, List.drop_succ_cons, ne_eq, not_false_eq_true, Option.map_some, Option.map_none, List.map_cons, List.map_nil, Bool.not_true, Bool.not_false, decide_true, decide_false, List.getElem?_cons_zero, List.getElem?_cons_succ, ↓aw1, ↓aw2, ↓aw17, aw3, aw4, aw5, aw6, aw7, aw8, aw9, aw10, aw11, aw12, aw13, aw14, aw15, aw16, aw19, Nat.reduceLeDiff, if_true, if_false, Nat.reduceEqDiff, Nat.reduceAdd, beq_self_eq_true, beq_true, beq_false, Bool.false_eq_true]
      refine Need.mk ⟨rfl, by decide, by decide, fun p hp => by
        simp only [List.mem_cons, List.not_mem_nil, or_false] at hp
        rcases hp with rfl | rfl | rfl <;> exact ⟨rfl, rfl, rfl⟩⟩ ?_
      simp only [happ, ne_eq, not_false_eq_true, Option.map_some, Option.map_none, List.map_cons, List.map_nil, Bool.not_true, Bool.not_false, decide_true, decide_false, List.getElem?_cons_zero, List.getElem?_cons_succ, ↓aw1, ↓aw2, ↓aw17, aw3, aw4, aw5, aw6, aw7, aw8, aw9, aw10, aw11, aw12, aw13, aw14, aw15, aw16, aw19, Nat.reduceLeDiff, if_true, if_false, Nat.reduceEqDiff, Nat.reduceAdd, beq_self_eq_true, beq_true, beq_false, Bool.false_eq_true]
      refine EvF.use (line_ev [[102, 117, 110, 99, 32], s.name.data.toList, [40, 99, 32, 42, 67, 41, 32, 123]] (hlb _ _) (by simp) (by simp only [List.flatten_cons, List.flatten_nil, List.length_append, List.length_cons, List.length_nil]; omega)) ?_
      rintro r h' ⟨rfl, rfl⟩
      have hg1 : ∀ (o o' : List UInt8) (J : List AObj) (x : AObj), (h ++ wr o' 0 :: (J ++ [x]))[(h ++ wr o 0 :: J).length]? = some x := fun o o' J x => by
        rw [List.getElem?_append_right (by simp)]; simp
      simp only [hls, hg1, List.drop_zero, List.drop_succ_cons, ne_eq, not_false_eq_true, Option.map_some, Option.map_none, List.map_cons, List.map_nil, Bool.not_true, Bool.not_false, decide_true, decide_false, List.getElem?_cons_zero, List.getElem?_cons_succ, ↓aw1, ↓aw2, ↓aw17, aw3, aw4, aw5, aw6, aw7, aw8, aw9, aw10, aw11, aw12, aw13, aw14, aw15, aw16, aw19, Nat.reduceLeDiff, if_true, if_false, Nat.reduceEqDiff, Nat.reduceAdd, beq_self_eq_true, beq_true, beq_false, Bool.false_eq_true]
      refine EvF.use (below_ev _ s.body (Nat.le_refl _) (by omega) _ h.length _ 0 (hlb _ _) (by simp only [Nat.zero_add, List.flatten_cons, List.flatten_nil, List.length_append, List.length_replicate, List.length_cons, List.length_nil]; omega) (by have := szL_wL s.body; omega)) ?_
      rintro r h' ⟨rfl, rfl⟩
      simp only [hls, Nat.zero_add, ne_eq, not_false_eq_true, Option.map_some, Option.map_none, List.map_cons, List.map_nil, Bool.not_true, Bool.not_false, decide_true, decide_false, List.getElem?_cons_zero, List.getElem?_cons_succ, ↓aw1, ↓aw2, ↓aw17, aw3, aw4, aw5, aw6, aw7, aw8, aw9, aw10, aw11, aw12, aw13, aw14, aw15, aw16, aw19, Nat.reduceLeDiff, if_true, if_false, Nat.reduceEqDiff, Nat.reduceAdd, beq_self_eq_true, beq_true, beq_false, Bool.false_eq_true]
      refine Need.mk ⟨rfl, by decide, by decide, fun p hp => by simp only [List.mem_singleton] at hp; subst hp; exact ⟨rfl, rfl, rfl⟩⟩ ?_
      simp only [ne_eq, not_false_eq_true, Option.map_some, Option.map_none, List.map_cons, List.map_nil, Bool.not_true, Bool.not_false, decide_true, decide_false, List.getElem?_cons_zero, List.getElem?_cons_succ, ↓aw1, ↓aw2, ↓aw17, aw3, aw4, aw5, aw6, aw7, aw8, aw9, aw10, aw11, aw12, aw13, aw14, aw15, aw16, aw19, Nat.reduceLeDiff, if_true, if_false, Nat.reduceEqDiff, Nat.reduceAdd, beq_self_eq_true, beq_true, beq_false, Bool.false_eq_true]
      refine EvF.use (line_ev [[125]] (hlb _ _) (by simp) (by simp only [List.flatten_cons, List.flatten_nil, List.length_append, List.length_replicate, List.length_cons, List.length_nil]; omega)) ?_
      rintro r h' ⟨rfl, rfl⟩
      simp only [hls, w3, ne_eq, not_false_eq_true, Option.map_some, Option.map_none, List.map_cons, List.map_nil, Bool.not_true, Bool.not_false, decide_true, decide_false, List.getElem?_cons_zero, List.getElem?_cons_succ, ↓aw1, ↓aw2, ↓aw17, aw3, aw4, aw5, aw6, aw7, aw8, aw9, aw10, aw11, aw12, aw13, aw14, aw15, aw16, aw19, Nat.reduceLeDiff, if_true, if_false, Nat.reduceEqDiff, Nat.reduceAdd, beq_self_eq_true, beq_true, beq_false, Bool.false_eq_true]
      refine ⟨(i + 1, J ++ [.cells [str s.name, bodyv s.body]]), by simp only; omega, by simp only; omega, weak_of ?_ (by simp [look])⟩
      rw [hsn]
      simp only [funT, lineT, List.append_assoc]
    · have e1 : decide ((i : Int) < (l.length : Int)) = false := by rw [decide_eq_false_iff_not]; omega
      rw [List.take_of_length_le (by omega)]
      simp only [e1, get0, List.drop_zero, List.drop_succ_cons, ne_eq, not_false_eq_true, Option.map_some, Option.map_none, List.map_cons, List.map_nil, Bool.not_true, Bool.not_false, decide_true, decide_false, List.getElem?_cons_zero, List.getElem?_cons_succ, ↓aw1, ↓aw2, ↓aw17, aw3, aw4, aw5, aw6, aw7, aw8, aw9, aw10, aw11, aw12, aw13, aw14, aw15, aw16, aw19, Nat.reduceLeDiff, if_true, if_false, Nat.reduceEqDiff, Nat.reduceAdd, beq_self_eq_true, beq_true, beq_false, Bool.false_eq_true]
      refine EvF.use (string_ev (rest := [i64 (0 : Nat)]) (e := 48) (l := funsT l) (get0 h _ J)) ?_
      rintro r h' ⟨rfl, rfl⟩
      have hlf : ∀ (X Y : AObj) (J : List AObj), (h ++ X :: J).set h.length Y = h ++ Y :: J := fun X Y J => by
        rw [List.set_append_right _ _ (Nat.le_refl _)]; simp
      simp only [hlf, ne_eq, not_false_eq_true, Option.map_some, Option.map_none, List.map_cons, List.map_nil, Bool.not_true, Bool.not_false, decide_true, decide_false, List.getElem?_cons_zero, List.getElem?_cons_succ, ↓aw1, ↓aw2, ↓aw17, aw3, aw4, aw5, aw6, aw7, aw8, aw9, aw10, aw11, aw12, aw13, aw14, aw15, aw16, aw19, Nat.reduceLeDiff, if_true, if_false, Nat.reduceEqDiff, Nat.reduceAdd, beq_self_eq_true, beq_true, beq_false, Bool.false_eq_true]
      exact Fin.same hcl rfl ⟨by simp only [textT, hs, if_true], rfl⟩
end Go.Abs.Fr
