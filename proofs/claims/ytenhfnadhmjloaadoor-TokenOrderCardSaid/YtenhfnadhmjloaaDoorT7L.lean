/- The document's example. -/
import Derived.Test.YtenhfnadhmjloaaDoorT7K
set_option linter.all false
namespace Go.Abs.T7
open Go Go.Abs Go.Proofs
set_option linter.unusedSimpArgs false

def ex1 : List UInt8 := [65, 32, 58, 58, 61, 32, 45, 53, 32, 45, 45, 32, 120]
def ex2 : List UInt8 := [97, 45]
theorem ex1_scan : scan ex1 = ([⟨1, [65], 0, 0⟩, ⟨3, [58, 58, 61], 0, 2⟩, ⟨2, [], -5, 6⟩], 13, 0) := by kernel_rfl
theorem ex2_scan : scan ex2 = ([], 0, 6) := by kernel_rfl

theorem byA_ones (b : List UInt8) : ∀ av, av ∈ byA b → av.sure = true ∧ av.cells = [av] := by
  intro av hav; obtain ⟨c, _, rfl⟩ := List.mem_map.1 hav; exact ⟨rfl, rfl⟩

theorem whl_ex1 : (whl [65, 45, 98] && lt97 (pk [65, 45, 98] 0)) = true := by kernel_rfl
theorem whl_ex2 : (whl [97] && !lt97 (pk [97] 0)) = true := by kernel_rfl

theorem awake_ev (h : List AObj) : EvR E0 7 [] h (boolv true) := by
  refine ev_of (fn := Tryd.f7) (hs := [(1, 0), (2, 0)]) Tryd.func7 c7 (by simp) fun hcl => ?_
  simp only [ac7, ne_eq, not_false_eq_true, Option.map_some, Option.map_none, List.map_cons, List.map_nil, Bool.not_true, Bool.not_false, decide_true, decide_false, List.getElem?_cons_zero, List.getElem?_cons_succ, ↓aw1, ↓aw2, ↓aw17, aw3, aw4, aw5, aw6, aw7, aw8, aw9, aw10, aw11, aw12, aw13, aw14, aw15, aw16, Nat.reduceLeDiff, if_true, if_false, Nat.reduceEqDiff, Nat.reduceAdd, beq_self_eq_true, beq_true, beq_false, Bool.false_eq_true]
  refine Need.mk ⟨rfl, by decide, by decide, fun p hp => ?_⟩ ?_
  · simp only [List.mem_cons, List.not_mem_nil, or_false] at hp
    rcases hp with h | h | h | h | h | h | h | h | h | h | h | h | h
    all_goals subst h; exact ⟨rfl, rfl, rfl⟩
  simp only [get0, set0, ne_eq, not_false_eq_true, Option.map_some, Option.map_none, List.map_cons, List.map_nil, Bool.not_true, Bool.not_false, decide_true, decide_false, List.getElem?_cons_zero, List.getElem?_cons_succ, ↓aw1, ↓aw2, ↓aw17, aw3, aw4, aw5, aw6, aw7, aw8, aw9, aw10, aw11, aw12, aw13, aw14, aw15, aw16, Nat.reduceLeDiff, if_true, if_false, Nat.reduceEqDiff, Nat.reduceAdd, beq_self_eq_true, beq_true, beq_false, Bool.false_eq_true]
  refine Need.mk ⟨rfl, rfl, byA_ones ex1⟩ ?_
  simp only [set0, ne_eq, not_false_eq_true, Option.map_some, Option.map_none, List.map_cons, List.map_nil, Bool.not_true, Bool.not_false, decide_true, decide_false, List.getElem?_cons_zero, List.getElem?_cons_succ, ↓aw1, ↓aw2, ↓aw17, aw3, aw4, aw5, aw6, aw7, aw8, aw9, aw10, aw11, aw12, aw13, aw14, aw15, aw16, Nat.reduceLeDiff, if_true, if_false, Nat.reduceEqDiff, Nat.reduceAdd, beq_self_eq_true, beq_true, beq_false, Bool.false_eq_true]
  refine EvF.use (scan_ev ex1 (by decide)) ?_
  rintro r h' ⟨⟨c, hc, rfl⟩, rfl⟩
  rw [ex1_scan]
  simp only [List.map_cons, List.map_nil, tokv, ne_eq, not_false_eq_true, Option.map_some, Option.map_none, List.map_cons, List.map_nil, Bool.not_true, Bool.not_false, decide_true, decide_false, List.getElem?_cons_zero, List.getElem?_cons_succ, ↓aw1, ↓aw2, ↓aw17, aw3, aw4, aw5, aw6, aw7, aw8, aw9, aw10, aw11, aw12, aw13, aw14, aw15, aw16, Nat.reduceLeDiff, if_true, if_false, Nat.reduceEqDiff, Nat.reduceAdd, beq_self_eq_true, beq_true, beq_false, Bool.false_eq_true]
  refine Need.mk ⟨rfl, by decide, by decide, fun p hp => ?_⟩ ?_
  · simp only [List.mem_cons, List.not_mem_nil, or_false] at hp
    rcases hp with h | h
    all_goals subst h; exact ⟨rfl, rfl, rfl⟩
  simp only [get0, set0, ne_eq, not_false_eq_true, Option.map_some, Option.map_none, List.map_cons, List.map_nil, Bool.not_true, Bool.not_false, decide_true, decide_false, List.getElem?_cons_zero, List.getElem?_cons_succ, ↓aw1, ↓aw2, ↓aw17, aw3, aw4, aw5, aw6, aw7, aw8, aw9, aw10, aw11, aw12, aw13, aw14, aw15, aw16, Nat.reduceLeDiff, if_true, if_false, Nat.reduceEqDiff, Nat.reduceAdd, beq_self_eq_true, beq_true, beq_false, Bool.false_eq_true]
  refine Need.mk ⟨rfl, rfl, byA_ones ex2⟩ ?_
  simp only [set0, ne_eq, not_false_eq_true, Option.map_some, Option.map_none, List.map_cons, List.map_nil, Bool.not_true, Bool.not_false, decide_true, decide_false, List.getElem?_cons_zero, List.getElem?_cons_succ, ↓aw1, ↓aw2, ↓aw17, aw3, aw4, aw5, aw6, aw7, aw8, aw9, aw10, aw11, aw12, aw13, aw14, aw15, aw16, Nat.reduceLeDiff, if_true, if_false, Nat.reduceEqDiff, Nat.reduceAdd, beq_self_eq_true, beq_true, beq_false, Bool.false_eq_true]
  refine EvF.use (scan_ev ex2 (by decide)) ?_
  rintro r h' ⟨⟨c2, hc2, rfl⟩, rfl⟩
  rw [ex2_scan]
  have z0 : decide (((0 : Nat) : Int) = 0) = true := rfl
  have z13 : decide (((13 : Nat) : Int) = 13) = true := rfl
  have z6 : decide (((6 : Nat) : Int) = 6) = true := rfl
  have z1 : decide (((1 : Nat) : Int) = 1) = true := rfl
  have z5 : decide ((-5 : Int) = -5) = true := rfl
  have zs : decide ((⟨[58, 58, 61].toArray⟩ : ByteArray) = ⟨#[58, 58, 61]⟩) = true := by kernel_rfl
  have z3 : decide (((3 : Nat) : Int) = 3) = true := rfl
  have y1 := whl_ex1
  have y2 := whl_ex2
  rcases hc with rfl | rfl
  all_goals
    simp only [List.map_cons, List.map_nil, tokv, z0, z13, z3, ne_eq, not_false_eq_true, Option.map_some, Option.map_none, List.map_cons, List.map_nil, Bool.not_true, Bool.not_false, decide_true, decide_false, List.getElem?_cons_zero, List.getElem?_cons_succ, ↓aw1, ↓aw2, ↓aw17, aw3, aw4, aw5, aw6, aw7, aw8, aw9, aw10, aw11, aw12, aw13, aw14, aw15, aw16, Nat.reduceLeDiff, if_true, if_false, Nat.reduceEqDiff, Nat.reduceAdd, beq_self_eq_true, beq_true, beq_false, Bool.false_eq_true]
    refine Need.mk ⟨by decide, by decide⟩ fun e he => ?_
    have he := Option.some.inj (show some _ = some e from he)
    subst he
    simp only [List.drop_zero, List.drop_succ_cons, z1, ne_eq, not_false_eq_true, Option.map_some, Option.map_none, List.map_cons, List.map_nil, Bool.not_true, Bool.not_false, decide_true, decide_false, List.getElem?_cons_zero, List.getElem?_cons_succ, ↓aw1, ↓aw2, ↓aw17, aw3, aw4, aw5, aw6, aw7, aw8, aw9, aw10, aw11, aw12, aw13, aw14, aw15, aw16, Nat.reduceLeDiff, if_true, if_false, Nat.reduceEqDiff, Nat.reduceAdd, beq_self_eq_true, beq_true, beq_false, Bool.false_eq_true]
    refine Need.mk ⟨by decide, by decide⟩ fun e he => ?_
    have he := Option.some.inj (show some _ = some e from he)
    subst he
    simp only [List.drop_zero, List.drop_succ_cons, zs, ne_eq, not_false_eq_true, Option.map_some, Option.map_none, List.map_cons, List.map_nil, Bool.not_true, Bool.not_false, decide_true, decide_false, List.getElem?_cons_zero, List.getElem?_cons_succ, ↓aw1, ↓aw2, ↓aw17, aw3, aw4, aw5, aw6, aw7, aw8, aw9, aw10, aw11, aw12, aw13, aw14, aw15, aw16, Nat.reduceLeDiff, if_true, if_false, Nat.reduceEqDiff, Nat.reduceAdd, beq_self_eq_true, beq_true, beq_false, Bool.false_eq_true]
    refine Need.mk ⟨by decide, by decide⟩ fun e he => ?_
    have he := Option.some.inj (show some _ = some e from he)
    subst he
    simp only [List.drop_zero, List.drop_succ_cons, z5, ne_eq, not_false_eq_true, Option.map_some, Option.map_none, List.map_cons, List.map_nil, Bool.not_true, Bool.not_false, decide_true, decide_false, List.getElem?_cons_zero, List.getElem?_cons_succ, ↓aw1, ↓aw2, ↓aw17, aw3, aw4, aw5, aw6, aw7, aw8, aw9, aw10, aw11, aw12, aw13, aw14, aw15, aw16, Nat.reduceLeDiff, if_true, if_false, Nat.reduceEqDiff, Nat.reduceAdd, beq_self_eq_true, beq_true, beq_false, Bool.false_eq_true]
    refine Need.mk ⟨by decide, by decide⟩ fun e he => ?_
    have he := Option.some.inj (show some _ = some e from he)
    subst he
    simp only [List.drop_zero, List.drop_succ_cons, z6, z0, ne_eq, not_false_eq_true, Option.map_some, Option.map_none, List.map_cons, List.map_nil, Bool.not_true, Bool.not_false, decide_true, decide_false, List.getElem?_cons_zero, List.getElem?_cons_succ, ↓aw1, ↓aw2, ↓aw17, aw3, aw4, aw5, aw6, aw7, aw8, aw9, aw10, aw11, aw12, aw13, aw14, aw15, aw16, Nat.reduceLeDiff, if_true, if_false, Nat.reduceEqDiff, Nat.reduceAdd, beq_self_eq_true, beq_true, beq_false, Bool.false_eq_true]
    refine EvF.ret (upper_ev _ _ (by decide)) ?_
    rw [show (whl (⟨#[65, 45, 98]⟩ : ByteArray).data.toList && lt97 (pk (⟨#[65, 45, 98]⟩ : ByteArray).data.toList 0)) = true from y1]
    simp only [ne_eq, not_false_eq_true, Option.map_some, Option.map_none, List.map_cons, List.map_nil, Bool.not_true, Bool.not_false, decide_true, decide_false, List.getElem?_cons_zero, List.getElem?_cons_succ, ↓aw1, ↓aw2, ↓aw17, aw3, aw4, aw5, aw6, aw7, aw8, aw9, aw10, aw11, aw12, aw13, aw14, aw15, aw16, Nat.reduceLeDiff, if_true, if_false, Nat.reduceEqDiff, Nat.reduceAdd, beq_self_eq_true, beq_true, beq_false, Bool.false_eq_true]
    refine EvF.ret (lower_ev _ _ (by decide)) ?_
    rw [show (whl (⟨#[97]⟩ : ByteArray).data.toList && !lt97 (pk (⟨#[97]⟩ : ByteArray).data.toList 0)) = true from y2]
    simp only [ne_eq, not_false_eq_true, Option.map_some, Option.map_none, List.map_cons, List.map_nil, Bool.not_true, Bool.not_false, decide_true, decide_false, List.getElem?_cons_zero, List.getElem?_cons_succ, ↓aw1, ↓aw2, ↓aw17, aw3, aw4, aw5, aw6, aw7, aw8, aw9, aw10, aw11, aw12, aw13, aw14, aw15, aw16, Nat.reduceLeDiff, if_true, if_false, Nat.reduceEqDiff, Nat.reduceAdd, beq_self_eq_true, beq_true, beq_false, Bool.false_eq_true]
    exact Fin.junk (junk := [.gone, .gone]) (by simp) (Nat.le_refl _) hcl rfl ⟨rfl, rfl⟩
end Go.Abs.T7
