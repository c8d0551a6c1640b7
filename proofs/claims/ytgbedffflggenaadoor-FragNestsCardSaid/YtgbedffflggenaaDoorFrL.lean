/- The document's text of a fragment. -/
import Derived.Test.YtgbedffflggenaaDoorFrU
set_option linter.all false
namespace Go.Abs.Fr
open Go Go.Abs Go.Proofs
set_option linter.unusedSimpArgs false
set_option maxRecDepth 100000

theorem szl (l : List UInt8) : (⟨l.toArray⟩ : ByteArray).size = l.length := rfl
theorem rep_snoc (t : Nat) : List.replicate t (9 : UInt8) ++ [9] = List.replicate (t + 1) 9 := List.replicate_succ'.symm

/-- What both writers agree about. -/
def clear (s : Stmt) : Prop := (∀ a, a ∈ s.args → a.text = false → a.n ≠ -9223372036854775808) ∧
  (decide (s.op = 1) = true ∨ decide (s.op = 2) = true ∨ decide (s.op = 3) = true ∨ (decide (s.op = 4) = true ∧ s.els.length = 0))

/-- What the statements' text is, the document's. -/
def Lines27 (l : List Stmt) : Prop := ∀ (t : Nat) (h : List AObj), (stmtsT t l).length ≤ 140737488355328 → t + 2 * szL l < 2 ^ 40 → EvR E0 27 [bodyv l, str ⟨(List.replicate t 9).toArray⟩] h (str ⟨(stmtsT t l).toArray⟩)

set_option maxHeartbeats 4000000 in
theorem lines_step (l : List Stmt) (hw : wL l < 2 ^ 30) (hl : ∀ s, s ∈ l → clear s ∧ Lines27 s.thn ∧ Lines27 s.els) : Lines27 l := by
  intro t h hb ht
  refine ev_of (fn := Tryd.f27) (hs := []) Tryd.func27 c27 (by simp) fun hcl => ?_
  have hlen := wL_len l
  simp only [ac27, List.length_map, ne_eq, not_false_eq_true, Option.map_some, Option.map_none, List.map_cons, List.map_nil, Bool.not_true, Bool.not_false, decide_true, decide_false, List.getElem?_cons_zero, List.getElem?_cons_succ, ↓aw1, ↓aw2, ↓aw17, aw3, aw4, aw5, aw6, aw7, aw8, aw9, aw10, aw11, aw12, aw13, aw14, aw15, aw16, aw19, Nat.reduceLeDiff, if_true, if_false, Nat.reduceEqDiff, Nat.reduceAdd, beq_self_eq_true, beq_true, beq_false, Bool.false_eq_true]
  refine LoopF.by (α := Nat × List AObj) (fun x => ⟨[(0, bodyv l), (1, str ⟨(List.replicate t 9).toArray⟩), (5, str ⟨(stmtsT t (l.take x.1)).toArray⟩), (6, i64 x.1)], h ++ x.2⟩) (fun x => l.length - x.1)
    (fun x => x.1 ≤ l.length) (0, []) (Nat.zero_le _) (weak_of (by simp) (by simp [look, stmtsT])) ?_
  rintro ⟨i, J⟩ h1
  simp only at h1
  have hle := stmtsT_le t l i
  by_cases hi : i < l.length
  · obtain ⟨s, hs⟩ : ∃ s, l[i]? = some s := ⟨_, List.getElem?_eq_getElem hi⟩
    have e1 : decide ((i : Int) < (l.length : Int)) = true := by rw [decide_eq_true_eq]; omega
    have w3 : IntKind.i64.wrap ((i : Int) + 1) = ((i + 1 : Nat) : Int) := by rw [wrap_i64] <;> omega
    have hm := List.mem_of_getElem? hs
    have hmem := wL_mem hm
    have hszm := szL_mem hm
    have hszs := szS_eq s
    have hws := wS_eq s
    have hsn := stmtsT_snoc t l i s hs
    have hle2 := stmtsT_le t l (i + 1)
    rw [hsn, List.length_append] at hle2
    obtain ⟨⟨ha, hop⟩, hT, hE⟩ := hl s hm
    have hlist := fun h => list_ev s.args (by omega) ha h
    have hal := argsT_len s.args
    have hcT := stmtT_eq t s
    generalize hX : stmtT t s = X at hle2 hsn hcT
    obtain ⟨nm, hnm⟩ : ∃ nm : List UInt8, s.name = ⟨nm.toArray⟩ := ⟨s.name.data.toList, rfl⟩
    have hns : nm.length = s.name.size := by rw [hnm, szl]
    have hcall : callT s = [99, 46] ++ nm ++ [40] ++ argsT s.args ++ [41] := by unfold callT; rw [hnm]; simp
    generalize hO : stmtsT t (l.take i) = O at hle hle2 hsn
    simp only [e1, List.length_map, hO, ne_eq, not_false_eq_true, Option.map_some, Option.map_none, List.map_cons, List.map_nil, Bool.not_true, Bool.not_false, decide_true, decide_false, List.getElem?_cons_zero, List.getElem?_cons_succ, ↓aw1, ↓aw2, ↓aw17, aw3, aw4, aw5, aw6, aw7, aw8, aw9, aw10, aw11, aw12, aw13, aw14, aw15, aw16, aw19, Nat.reduceLeDiff, if_true, if_false, Nat.reduceEqDiff, Nat.reduceAdd, beq_self_eq_true, beq_true, beq_false, Bool.false_eq_true]
    refine Need.mk ⟨by omega, by first | omega | (simp; omega)⟩ (Elem.recs (map_get stmtv l i s hs) (by rw [stmtv_eq]; exact ⟨rfl, rfl⟩) ?_)
    simp only [stmtv_eq, getJ, setJ, hnm, List.take_succ_cons, List.take_zero, List.drop_zero, List.drop_succ_cons, ne_eq, not_false_eq_true, Option.map_some, Option.map_none, List.map_cons, List.map_nil, Bool.not_true, Bool.not_false, decide_true, decide_false, List.getElem?_cons_zero, List.getElem?_cons_succ, ↓aw1, ↓aw2, ↓aw17, aw3, aw4, aw5, aw6, aw7, aw8, aw9, aw10, aw11, aw12, aw13, aw14, aw15, aw16, aw19, Nat.reduceLeDiff, if_true, if_false, Nat.reduceEqDiff, Nat.reduceAdd, beq_self_eq_true, beq_true, beq_false, Bool.false_eq_true]
    repeat (refine Need.mk (by simp only [szl, List.length_append, List.length_cons, List.length_nil, List.length_replicate]; omega) ?_; simp only [stmtv_eq, getJ, setJ, ba_append, rep_snoc, List.take_succ_cons, List.take_zero, List.drop_zero, List.drop_succ_cons, ne_eq, not_false_eq_true, Option.map_some, Option.map_none, List.map_cons, List.map_nil, Bool.not_true, Bool.not_false, decide_true, decide_false, List.getElem?_cons_zero, List.getElem?_cons_succ, ↓aw1, ↓aw2, ↓aw17, aw3, aw4, aw5, aw6, aw7, aw8, aw9, aw10, aw11, aw12, aw13, aw14, aw15, aw16, aw19, Nat.reduceLeDiff, if_true, if_false, Nat.reduceEqDiff, Nat.reduceAdd, beq_self_eq_true, beq_true, beq_false, Bool.false_eq_true])
    refine EvRF.ret (hlist _) ?_
    simp only [stmtv_eq, getJ, setJ, ba_append, List.take_succ_cons, List.take_zero, List.drop_zero, List.drop_succ_cons, ne_eq, not_false_eq_true, Option.map_some, Option.map_none, List.map_cons, List.map_nil, Bool.not_true, Bool.not_false, decide_true, decide_false, List.getElem?_cons_zero, List.getElem?_cons_succ, ↓aw1, ↓aw2, ↓aw17, aw3, aw4, aw5, aw6, aw7, aw8, aw9, aw10, aw11, aw12, aw13, aw14, aw15, aw16, aw19, Nat.reduceLeDiff, if_true, if_false, Nat.reduceEqDiff, Nat.reduceAdd, beq_self_eq_true, beq_true, beq_false, Bool.false_eq_true]
    repeat (refine Need.mk (by simp only [szl, List.length_append, List.length_cons, List.length_nil, List.length_replicate]; omega) ?_; simp only [stmtv_eq, getJ, setJ, ba_append, ← hcall, rep_snoc, List.take_succ_cons, List.take_zero, List.drop_zero, List.drop_succ_cons, ne_eq, not_false_eq_true, Option.map_some, Option.map_none, List.map_cons, List.map_nil, Bool.not_true, Bool.not_false, decide_true, decide_false, List.getElem?_cons_zero, List.getElem?_cons_succ, ↓aw1, ↓aw2, ↓aw17, aw3, aw4, aw5, aw6, aw7, aw8, aw9, aw10, aw11, aw12, aw13, aw14, aw15, aw16, aw19, Nat.reduceLeDiff, if_true, if_false, Nat.reduceEqDiff, Nat.reduceAdd, beq_self_eq_true, beq_true, beq_false, Bool.false_eq_true])
    have hcl2 : (callT s).length ≤ 2 ^ 40 := by rw [hcall]; simp only [List.length_append, List.length_cons, List.length_nil]; omega
    have last : ∀ (T : List UInt8) (X' : List UInt8), X' = X → (⟨(O ++ X').toArray⟩ : ByteArray) = ⟨(stmtsT t (l.take (i + 1))).toArray⟩ := fun _ _ h => by rw [h, hsn]
    cases k1 : decide (s.op = 1)
    · cases k2 : decide (s.op = 2)
      · have hh : headT s = (if decide (s.op = 4) then [[102, 111, 114, 32], callT s, [32, 123]] else [[105, 102, 32], callT s, [32, 123]]) := by simp only [headT, k1, k2, Bool.false_eq_true, if_false]
        simp only [k1, k2, Bool.or_self, Bool.false_eq_true, if_false, hh] at hcT
        have hXl := congrArg List.length hcT
        simp only [List.length_append] at hXl
        cases k3 : decide (s.op = 3)
        · have k4 : decide (s.op = 4) = true := by
            rcases hop with h | h | h | h
            · rw [k1] at h; cases h
            · rw [k2] at h; cases h
            · rw [k3] at h; cases h
            · exact h.1
          have e4 : s.els.length = 0 := by
            rcases hop with h | h | h | h
            · rw [k1] at h; cases h
            · rw [k2] at h; cases h
            · rw [k3] at h; cases h
            · exact h.2
          simp only [k4, e4, if_true, List.nil_append] at hcT
          simp only [k1, k2, k3, last_obj, stmtv_eq, getJ, setJ, ba_append, List.take_succ_cons, List.take_zero, List.drop_zero, List.drop_succ_cons, ne_eq, not_false_eq_true, Option.map_some, Option.map_none, List.map_cons, List.map_nil, Bool.not_true, Bool.not_false, decide_true, decide_false, List.getElem?_cons_zero, List.getElem?_cons_succ, ↓aw1, ↓aw2, ↓aw17, aw3, aw4, aw5, aw6, aw7, aw8, aw9, aw10, aw11, aw12, aw13, aw14, aw15, aw16, aw19, Nat.reduceLeDiff, if_true, if_false, Nat.reduceEqDiff, Nat.reduceAdd, beq_self_eq_true, beq_true, beq_false, Bool.false_eq_true]
          repeat (refine Need.mk (by simp only [szl, List.length_append, List.length_cons, List.length_nil, List.length_replicate]; omega) ?_; simp only [stmtv_eq, getJ, setJ, ba_append, rep_snoc, List.take_succ_cons, List.take_zero, List.drop_zero, List.drop_succ_cons, ne_eq, not_false_eq_true, Option.map_some, Option.map_none, List.map_cons, List.map_nil, Bool.not_true, Bool.not_false, decide_true, decide_false, List.getElem?_cons_zero, List.getElem?_cons_succ, ↓aw1, ↓aw2, ↓aw17, aw3, aw4, aw5, aw6, aw7, aw8, aw9, aw10, aw11, aw12, aw13, aw14, aw15, aw16, aw19, Nat.reduceLeDiff, if_true, if_false, Nat.reduceEqDiff, Nat.reduceAdd, beq_self_eq_true, beq_true, beq_false, Bool.false_eq_true])
          refine EvF.ret (hT (t + 1) _ (by omega) (by omega)) ?_
          simp only [stmtv_eq, getJ, setJ, ba_append, List.take_succ_cons, List.take_zero, List.drop_zero, List.drop_succ_cons, ne_eq, not_false_eq_true, Option.map_some, Option.map_none, List.map_cons, List.map_nil, Bool.not_true, Bool.not_false, decide_true, decide_false, List.getElem?_cons_zero, List.getElem?_cons_succ, ↓aw1, ↓aw2, ↓aw17, aw3, aw4, aw5, aw6, aw7, aw8, aw9, aw10, aw11, aw12, aw13, aw14, aw15, aw16, aw19, Nat.reduceLeDiff, if_true, if_false, Nat.reduceEqDiff, Nat.reduceAdd, beq_self_eq_true, beq_true, beq_false, Bool.false_eq_true]
          repeat (refine Need.mk (by simp only [szl, List.length_append, List.length_cons, List.length_nil, List.length_replicate]; omega) ?_; simp only [stmtv_eq, getJ, setJ, ba_append, rep_snoc, List.take_succ_cons, List.take_zero, List.drop_zero, List.drop_succ_cons, ne_eq, not_false_eq_true, Option.map_some, Option.map_none, List.map_cons, List.map_nil, Bool.not_true, Bool.not_false, decide_true, decide_false, List.getElem?_cons_zero, List.getElem?_cons_succ, ↓aw1, ↓aw2, ↓aw17, aw3, aw4, aw5, aw6, aw7, aw8, aw9, aw10, aw11, aw12, aw13, aw14, aw15, aw16, aw19, Nat.reduceLeDiff, if_true, if_false, Nat.reduceEqDiff, Nat.reduceAdd, beq_self_eq_true, beq_true, beq_false, Bool.false_eq_true])
          simp only [w3, ne_eq, not_false_eq_true, Option.map_some, Option.map_none, List.map_cons, List.map_nil, Bool.not_true, Bool.not_false, decide_true, decide_false, List.getElem?_cons_zero, List.getElem?_cons_succ, ↓aw1, ↓aw2, ↓aw17, aw3, aw4, aw5, aw6, aw7, aw8, aw9, aw10, aw11, aw12, aw13, aw14, aw15, aw16, aw19, Nat.reduceLeDiff, if_true, if_false, Nat.reduceEqDiff, Nat.reduceAdd, beq_self_eq_true, beq_true, beq_false, Bool.false_eq_true]; exact ⟨(i + 1, J ++ [.cells [i64 s.op, str ⟨nm.toArray⟩, argsv s.args, bodyv s.thn, bodyv s.els]]), by simp only; omega, by simp only; omega, weak_of (by simp) (by simp [look, hsn, hcT, lineT])⟩
        · have k4 : decide (s.op = 4) = false := by
            rw [decide_eq_true_eq] at k3; rw [decide_eq_false_iff_not]; omega
          simp only [k4, Bool.false_eq_true, if_false] at hcT
          simp only [k1, k2, k3, last_obj, stmtv_eq, getJ, setJ, ba_append, List.take_succ_cons, List.take_zero, List.drop_zero, List.drop_succ_cons, ne_eq, not_false_eq_true, Option.map_some, Option.map_none, List.map_cons, List.map_nil, Bool.not_true, Bool.not_false, decide_true, decide_false, List.getElem?_cons_zero, List.getElem?_cons_succ, ↓aw1, ↓aw2, ↓aw17, aw3, aw4, aw5, aw6, aw7, aw8, aw9, aw10, aw11, aw12, aw13, aw14, aw15, aw16, aw19, Nat.reduceLeDiff, if_true, if_false, Nat.reduceEqDiff, Nat.reduceAdd, beq_self_eq_true, beq_true, beq_false, Bool.false_eq_true]
          repeat (refine Need.mk (by simp only [szl, List.length_append, List.length_cons, List.length_nil, List.length_replicate]; omega) ?_; simp only [stmtv_eq, getJ, setJ, ba_append, rep_snoc, List.take_succ_cons, List.take_zero, List.drop_zero, List.drop_succ_cons, ne_eq, not_false_eq_true, Option.map_some, Option.map_none, List.map_cons, List.map_nil, Bool.not_true, Bool.not_false, decide_true, decide_false, List.getElem?_cons_zero, List.getElem?_cons_succ, ↓aw1, ↓aw2, ↓aw17, aw3, aw4, aw5, aw6, aw7, aw8, aw9, aw10, aw11, aw12, aw13, aw14, aw15, aw16, aw19, Nat.reduceLeDiff, if_true, if_false, Nat.reduceEqDiff, Nat.reduceAdd, beq_self_eq_true, beq_true, beq_false, Bool.false_eq_true])
          refine EvF.ret (hT (t + 1) _ (by omega) (by omega)) ?_
          simp only [stmtv_eq, getJ, setJ, ba_append, List.take_succ_cons, List.take_zero, List.drop_zero, List.drop_succ_cons, ne_eq, not_false_eq_true, Option.map_some, Option.map_none, List.map_cons, List.map_nil, Bool.not_true, Bool.not_false, decide_true, decide_false, List.getElem?_cons_zero, List.getElem?_cons_succ, ↓aw1, ↓aw2, ↓aw17, aw3, aw4, aw5, aw6, aw7, aw8, aw9, aw10, aw11, aw12, aw13, aw14, aw15, aw16, aw19, Nat.reduceLeDiff, if_true, if_false, Nat.reduceEqDiff, Nat.reduceAdd, beq_self_eq_true, beq_true, beq_false, Bool.false_eq_true]
          repeat (refine Need.mk (by simp only [szl, List.length_append, List.length_cons, List.length_nil, List.length_replicate]; omega) ?_; simp only [stmtv_eq, getJ, setJ, ba_append, rep_snoc, List.take_succ_cons, List.take_zero, List.drop_zero, List.drop_succ_cons, ne_eq, not_false_eq_true, Option.map_some, Option.map_none, List.map_cons, List.map_nil, Bool.not_true, Bool.not_false, decide_true, decide_false, List.getElem?_cons_zero, List.getElem?_cons_succ, ↓aw1, ↓aw2, ↓aw17, aw3, aw4, aw5, aw6, aw7, aw8, aw9, aw10, aw11, aw12, aw13, aw14, aw15, aw16, aw19, Nat.reduceLeDiff, if_true, if_false, Nat.reduceEqDiff, Nat.reduceAdd, beq_self_eq_true, beq_true, beq_false, Bool.false_eq_true])
          cases e0 : decide (s.els.length = 0)
          · have ez : ¬ s.els.length = 0 := by rw [decide_eq_false_iff_not] at e0; exact e0
            have eb : decide ((0 : Int) < (s.els.length : Int)) = true := by rw [decide_eq_true_eq]; omega
            simp only [if_neg ez, List.length_append] at hXl
            simp only [if_neg ez] at hcT
            simp only [eb, List.length_map, stmtv_eq, getJ, setJ, ba_append, List.take_succ_cons, List.take_zero, List.drop_zero, List.drop_succ_cons, ne_eq, not_false_eq_true, Option.map_some, Option.map_none, List.map_cons, List.map_nil, Bool.not_true, Bool.not_false, decide_true, decide_false, List.getElem?_cons_zero, List.getElem?_cons_succ, ↓aw1, ↓aw2, ↓aw17, aw3, aw4, aw5, aw6, aw7, aw8, aw9, aw10, aw11, aw12, aw13, aw14, aw15, aw16, aw19, Nat.reduceLeDiff, if_true, if_false, Nat.reduceEqDiff, Nat.reduceAdd, beq_self_eq_true, beq_true, beq_false, Bool.false_eq_true]
            repeat (refine Need.mk (by simp only [szl, List.length_append, List.length_cons, List.length_nil, List.length_replicate]; omega) ?_; simp only [stmtv_eq, getJ, setJ, ba_append, rep_snoc, List.take_succ_cons, List.take_zero, List.drop_zero, List.drop_succ_cons, ne_eq, not_false_eq_true, Option.map_some, Option.map_none, List.map_cons, List.map_nil, Bool.not_true, Bool.not_false, decide_true, decide_false, List.getElem?_cons_zero, List.getElem?_cons_succ, ↓aw1, ↓aw2, ↓aw17, aw3, aw4, aw5, aw6, aw7, aw8, aw9, aw10, aw11, aw12, aw13, aw14, aw15, aw16, aw19, Nat.reduceLeDiff, if_true, if_false, Nat.reduceEqDiff, Nat.reduceAdd, beq_self_eq_true, beq_true, beq_false, Bool.false_eq_true])
            refine EvF.ret (hE (t + 1) _ (by omega) (by omega)) ?_
            simp only [stmtv_eq, getJ, setJ, ba_append, List.take_succ_cons, List.take_zero, List.drop_zero, List.drop_succ_cons, ne_eq, not_false_eq_true, Option.map_some, Option.map_none, List.map_cons, List.map_nil, Bool.not_true, Bool.not_false, decide_true, decide_false, List.getElem?_cons_zero, List.getElem?_cons_succ, ↓aw1, ↓aw2, ↓aw17, aw3, aw4, aw5, aw6, aw7, aw8, aw9, aw10, aw11, aw12, aw13, aw14, aw15, aw16, aw19, Nat.reduceLeDiff, if_true, if_false, Nat.reduceEqDiff, Nat.reduceAdd, beq_self_eq_true, beq_true, beq_false, Bool.false_eq_true]
            repeat (refine Need.mk (by simp only [szl, List.length_append, List.length_cons, List.length_nil, List.length_replicate]; omega) ?_; simp only [stmtv_eq, getJ, setJ, ba_append, rep_snoc, List.take_succ_cons, List.take_zero, List.drop_zero, List.drop_succ_cons, ne_eq, not_false_eq_true, Option.map_some, Option.map_none, List.map_cons, List.map_nil, Bool.not_true, Bool.not_false, decide_true, decide_false, List.getElem?_cons_zero, List.getElem?_cons_succ, ↓aw1, ↓aw2, ↓aw17, aw3, aw4, aw5, aw6, aw7, aw8, aw9, aw10, aw11, aw12, aw13, aw14, aw15, aw16, aw19, Nat.reduceLeDiff, if_true, if_false, Nat.reduceEqDiff, Nat.reduceAdd, beq_self_eq_true, beq_true, beq_false, Bool.false_eq_true])
            simp only [w3, ne_eq, not_false_eq_true, Option.map_some, Option.map_none, List.map_cons, List.map_nil, Bool.not_true, Bool.not_false, decide_true, decide_false, List.getElem?_cons_zero, List.getElem?_cons_succ, ↓aw1, ↓aw2, ↓aw17, aw3, aw4, aw5, aw6, aw7, aw8, aw9, aw10, aw11, aw12, aw13, aw14, aw15, aw16, aw19, Nat.reduceLeDiff, if_true, if_false, Nat.reduceEqDiff, Nat.reduceAdd, beq_self_eq_true, beq_true, beq_false, Bool.false_eq_true]; exact ⟨(i + 1, J ++ [.cells [i64 s.op, str ⟨nm.toArray⟩, argsv s.args, bodyv s.thn, bodyv s.els]]), by simp only; omega, by simp only; omega, weak_of (by simp) (by simp [look, hsn, hcT, lineT])⟩
          · have ez : s.els.length = 0 := by rw [decide_eq_true_eq] at e0; exact e0
            have eb : decide ((0 : Int) < (s.els.length : Int)) = false := by rw [decide_eq_false_iff_not]; omega
            simp only [if_pos ez, List.nil_append] at hcT
            simp only [eb, List.length_map, stmtv_eq, getJ, setJ, ba_append, List.take_succ_cons, List.take_zero, List.drop_zero, List.drop_succ_cons, ne_eq, not_false_eq_true, Option.map_some, Option.map_none, List.map_cons, List.map_nil, Bool.not_true, Bool.not_false, decide_true, decide_false, List.getElem?_cons_zero, List.getElem?_cons_succ, ↓aw1, ↓aw2, ↓aw17, aw3, aw4, aw5, aw6, aw7, aw8, aw9, aw10, aw11, aw12, aw13, aw14, aw15, aw16, aw19, Nat.reduceLeDiff, if_true, if_false, Nat.reduceEqDiff, Nat.reduceAdd, beq_self_eq_true, beq_true, beq_false, Bool.false_eq_true]
            repeat (refine Need.mk (by simp only [szl, List.length_append, List.length_cons, List.length_nil, List.length_replicate]; omega) ?_; simp only [stmtv_eq, getJ, setJ, ba_append, rep_snoc, List.take_succ_cons, List.take_zero, List.drop_zero, List.drop_succ_cons, ne_eq, not_false_eq_true, Option.map_some, Option.map_none, List.map_cons, List.map_nil, Bool.not_true, Bool.not_false, decide_true, decide_false, List.getElem?_cons_zero, List.getElem?_cons_succ, ↓aw1, ↓aw2, ↓aw17, aw3, aw4, aw5, aw6, aw7, aw8, aw9, aw10, aw11, aw12, aw13, aw14, aw15, aw16, aw19, Nat.reduceLeDiff, if_true, if_false, Nat.reduceEqDiff, Nat.reduceAdd, beq_self_eq_true, beq_true, beq_false, Bool.false_eq_true])
            simp only [w3, ne_eq, not_false_eq_true, Option.map_some, Option.map_none, List.map_cons, List.map_nil, Bool.not_true, Bool.not_false, decide_true, decide_false, List.getElem?_cons_zero, List.getElem?_cons_succ, ↓aw1, ↓aw2, ↓aw17, aw3, aw4, aw5, aw6, aw7, aw8, aw9, aw10, aw11, aw12, aw13, aw14, aw15, aw16, aw19, Nat.reduceLeDiff, if_true, if_false, Nat.reduceEqDiff, Nat.reduceAdd, beq_self_eq_true, beq_true, beq_false, Bool.false_eq_true]; exact ⟨(i + 1, J ++ [.cells [i64 s.op, str ⟨nm.toArray⟩, argsv s.args, bodyv s.thn, bodyv s.els]]), by simp only; omega, by simp only; omega, weak_of (by simp) (by simp [look, hsn, hcT, lineT])⟩
      · have hh : headT s = [s.name.data.toList, [40, 99, 41]] := by simp only [headT, k1, k2, Bool.false_eq_true, if_false, if_true]
        simp only [k2, Bool.or_true, if_true, hh, hnm] at hcT
        simp only [k1, k2, last_obj, stmtv_eq, getJ, setJ, ba_append, List.take_succ_cons, List.take_zero, List.drop_zero, List.drop_succ_cons, ne_eq, not_false_eq_true, Option.map_some, Option.map_none, List.map_cons, List.map_nil, Bool.not_true, Bool.not_false, decide_true, decide_false, List.getElem?_cons_zero, List.getElem?_cons_succ, ↓aw1, ↓aw2, ↓aw17, aw3, aw4, aw5, aw6, aw7, aw8, aw9, aw10, aw11, aw12, aw13, aw14, aw15, aw16, aw19, Nat.reduceLeDiff, if_true, if_false, Nat.reduceEqDiff, Nat.reduceAdd, beq_self_eq_true, beq_true, beq_false, Bool.false_eq_true]
        repeat (refine Need.mk (by simp only [szl, List.length_append, List.length_cons, List.length_nil, List.length_replicate]; omega) ?_; simp only [stmtv_eq, getJ, setJ, ba_append, rep_snoc, List.take_succ_cons, List.take_zero, List.drop_zero, List.drop_succ_cons, ne_eq, not_false_eq_true, Option.map_some, Option.map_none, List.map_cons, List.map_nil, Bool.not_true, Bool.not_false, decide_true, decide_false, List.getElem?_cons_zero, List.getElem?_cons_succ, ↓aw1, ↓aw2, ↓aw17, aw3, aw4, aw5, aw6, aw7, aw8, aw9, aw10, aw11, aw12, aw13, aw14, aw15, aw16, aw19, Nat.reduceLeDiff, if_true, if_false, Nat.reduceEqDiff, Nat.reduceAdd, beq_self_eq_true, beq_true, beq_false, Bool.false_eq_true])
        simp only [w3, ne_eq, not_false_eq_true, Option.map_some, Option.map_none, List.map_cons, List.map_nil, Bool.not_true, Bool.not_false, decide_true, decide_false, List.getElem?_cons_zero, List.getElem?_cons_succ, ↓aw1, ↓aw2, ↓aw17, aw3, aw4, aw5, aw6, aw7, aw8, aw9, aw10, aw11, aw12, aw13, aw14, aw15, aw16, aw19, Nat.reduceLeDiff, if_true, if_false, Nat.reduceEqDiff, Nat.reduceAdd, beq_self_eq_true, beq_true, beq_false, Bool.false_eq_true]; exact ⟨(i + 1, J ++ [.cells [i64 s.op, str ⟨nm.toArray⟩, argsv s.args, bodyv s.thn, bodyv s.els]]), by simp only; omega, by simp only; omega, weak_of (by simp) (by simp [look, hsn, hcT, lineT])⟩
    · have hh : headT s = [callT s] := by simp only [headT, k1, if_true]
      simp only [k1, Bool.true_or, if_true, hh] at hcT
      simp only [k1, last_obj, stmtv_eq, getJ, setJ, ba_append, List.take_succ_cons, List.take_zero, List.drop_zero, List.drop_succ_cons, ne_eq, not_false_eq_true, Option.map_some, Option.map_none, List.map_cons, List.map_nil, Bool.not_true, Bool.not_false, decide_true, decide_false, List.getElem?_cons_zero, List.getElem?_cons_succ, ↓aw1, ↓aw2, ↓aw17, aw3, aw4, aw5, aw6, aw7, aw8, aw9, aw10, aw11, aw12, aw13, aw14, aw15, aw16, aw19, Nat.reduceLeDiff, if_true, if_false, Nat.reduceEqDiff, Nat.reduceAdd, beq_self_eq_true, beq_true, beq_false, Bool.false_eq_true]
      repeat (refine Need.mk (by simp only [szl, List.length_append, List.length_cons, List.length_nil, List.length_replicate]; omega) ?_; simp only [stmtv_eq, getJ, setJ, ba_append, rep_snoc, List.take_succ_cons, List.take_zero, List.drop_zero, List.drop_succ_cons, ne_eq, not_false_eq_true, Option.map_some, Option.map_none, List.map_cons, List.map_nil, Bool.not_true, Bool.not_false, decide_true, decide_false, List.getElem?_cons_zero, List.getElem?_cons_succ, ↓aw1, ↓aw2, ↓aw17, aw3, aw4, aw5, aw6, aw7, aw8, aw9, aw10, aw11, aw12, aw13, aw14, aw15, aw16, aw19, Nat.reduceLeDiff, if_true, if_false, Nat.reduceEqDiff, Nat.reduceAdd, beq_self_eq_true, beq_true, beq_false, Bool.false_eq_true])
      simp only [w3, ne_eq, not_false_eq_true, Option.map_some, Option.map_none, List.map_cons, List.map_nil, Bool.not_true, Bool.not_false, decide_true, decide_false, List.getElem?_cons_zero, List.getElem?_cons_succ, ↓aw1, ↓aw2, ↓aw17, aw3, aw4, aw5, aw6, aw7, aw8, aw9, aw10, aw11, aw12, aw13, aw14, aw15, aw16, aw19, Nat.reduceLeDiff, if_true, if_false, Nat.reduceEqDiff, Nat.reduceAdd, beq_self_eq_true, beq_true, beq_false, Bool.false_eq_true]; exact ⟨(i + 1, J ++ [.cells [i64 s.op, str ⟨nm.toArray⟩, argsv s.args, bodyv s.thn, bodyv s.els]]), by simp only; omega, by simp only; omega, weak_of (by simp) (by simp [look, hsn, hcT, lineT])⟩
  · have e1 : decide ((i : Int) < (l.length : Int)) = false := by rw [decide_eq_false_iff_not]; omega
    rw [List.take_of_length_le (by omega)]
    simp only [e1, List.length_map, ne_eq, not_false_eq_true, Option.map_some, Option.map_none, List.map_cons, List.map_nil, Bool.not_true, Bool.not_false, decide_true, decide_false, List.getElem?_cons_zero, List.getElem?_cons_succ, ↓aw1, ↓aw2, ↓aw17, aw3, aw4, aw5, aw6, aw7, aw8, aw9, aw10, aw11, aw12, aw13, aw14, aw15, aw16, aw19, Nat.reduceLeDiff, if_true, if_false, Nat.reduceEqDiff, Nat.reduceAdd, beq_self_eq_true, beq_true, beq_false, Bool.false_eq_true]
    exact Fin.same hcl rfl ⟨rfl, rfl⟩
end Go.Abs.Fr
