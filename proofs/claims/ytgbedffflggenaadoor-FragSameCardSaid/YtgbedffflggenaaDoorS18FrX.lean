/- The text of a fragment: what stands in quotes. -/
import Derived.Test.YtgbedffflggenaaDoorS18FrN
set_option linter.all false
namespace Go.Abs.Fr
open Go Go.Abs Go.Proofs
set_option linter.unusedSimpArgs false
set_option maxRecDepth 100000

def hexs : ByteArray := ⟨#[48, 49, 50, 51, 52, 53, 54, 55, 56, 57, 97, 98, 99, 100, 101, 102]⟩
def hx (n : Nat) : UInt8 := hexs[n]?.getD 0
def small (c : UInt8) : Bool := decide ((c.toNat : Int) < 32)
def big (c : UInt8) : Bool := decide ((126 : Int) < (c.toNat : Int))
/-- A character in quotes. -/
def qc (c : UInt8) : List UInt8 := if small c || big c then [92, 120, hx (c.toNat / 16), hx (c.toNat % 16)] else if isC 34 c || isC 92 c then [92, c] else [c]
def quo (l : List UInt8) : List UInt8 := 34 :: (l.flatMap qc ++ [34])

theorem qc_len (c : UInt8) : (qc c).length ≤ 4 := by
  unfold qc
  split
  · simp
  · split <;> simp
theorem flat_len : ∀ (l : List UInt8), (l.flatMap qc).length ≤ 4 * l.length
  | [] => by simp
  | c :: l => by have := qc_len c; have := flat_len l; simp only [List.flatMap_cons, List.length_append, List.length_cons]; omega
theorem quo_len (l : List UInt8) : (quo l).length ≤ 4 * l.length + 2 := by
  have := flat_len l
  simp only [quo, List.length_cons, List.length_append, List.length_nil]; omega

theorem flat_snoc (l : List UInt8) (i : Nat) (c : UInt8) (h : l[i]? = some c) : (l.take (i + 1)).flatMap qc = (l.take i).flatMap qc ++ qc c := by
  have hi := (List.getElem?_eq_some_iff.1 h).1
  have he := (List.getElem?_eq_some_iff.1 h).2
  rw [List.take_succ_eq_append_getElem hi, he]
  simp

theorem fitb (l : List UInt8) : Fit 1 (byA l) := by
  intro e he; obtain ⟨c, _, rfl⟩ := List.mem_map.1 he; exact ⟨rfl, rfl⟩
theorem oneb (l : List UInt8) : allOne (byA l) := by
  intro e he; obtain ⟨c, _, rfl⟩ := List.mem_map.1 he; rfl
theorem bitesOf_byA : ∀ (b : List UInt8), bitesOf (byA b) = some b
  | [] => rfl
  | c :: b => by
    have := bitesOf_byA b
    simp only [byA] at this
    simp [bitesOf, this]

theorem and15 (c : UInt8) : ibits .and .u8 (c.toNat : Int) 15 = ((c.toNat % 16 : Nat) : Int) := by
  have := all_u8 (p := fun c => decide (ibits .and .u8 (c.toNat : Int) 15 = ((c.toNat % 16 : Nat) : Int))) (by decide +kernel) c
  exact of_decide_eq_true this
theorem shr4 (c : UInt8) : (c.toNat : Int).fdiv (2 ^ (min (4 : Int).toNat IntKind.u8.bits)) = ((c.toNat / 16 : Nat) : Int) := by
  have := all_u8 (p := fun c => decide ((c.toNat : Int).fdiv (2 ^ (min (4 : Int).toNat IntKind.u8.bits)) = ((c.toNat / 16 : Nat) : Int))) (by decide +kernel) c
  exact of_decide_eq_true this
theorem quo16 (c : UInt8) : IntKind.u8.wrap ((c.toNat : Int).tdiv 16) = ((c.toNat / 16 : Nat) : Int) := by
  have := all_u8 (p := fun c => decide (IntKind.u8.wrap ((c.toNat : Int).tdiv 16) = ((c.toNat / 16 : Nat) : Int))) (by decide +kernel) c
  exact of_decide_eq_true this
theorem rem16 (c : UInt8) : (c.toNat : Int).tmod 16 = ((c.toNat % 16 : Nat) : Int) := by
  have := all_u8 (p := fun c => decide ((c.toNat : Int).tmod 16 = ((c.toNat % 16 : Nat) : Int))) (by decide +kernel) c
  exact of_decide_eq_true this
theorem hx_get {n : Nat} {c : UInt8} (h : hexs[n]? = some c) : c = hx n := by simp [hx, h]

set_option maxHeartbeats 2000000 in
theorem quoted_ev (s : ByteArray) (hs : s.size < 2 ^ 30) (h : List AObj) : EvR E0 82 [str s] h (str ⟨(quo s.data.toList).toArray⟩) := by
  refine ev_of (fn := Tryd.f82) (hs := [(6, 0), (6, 4), (8, 1017), (8, 9), (10, 0), (10, 4), (12, 0)]) Tryd.func82 c82 (by simp) fun hcl => ?_
  have hlen : s.data.toList.length = s.size := by simp
  simp only [ac82, ne_eq, not_false_eq_true, Option.map_some, Option.map_none, List.map_cons, List.map_nil, Bool.not_true, Bool.not_false, decide_true, decide_false, List.getElem?_cons_zero, List.getElem?_cons_succ, ↓aw1, ↓aw2, ↓aw17, aw3, aw4, aw5, aw6, aw7, aw8, aw9, aw10, aw11, aw12, aw13, aw14, aw15, aw16, aw19, Nat.reduceLeDiff, if_true, if_false, Nat.reduceEqDiff, Nat.reduceAdd, beq_self_eq_true, beq_true, beq_false, Bool.false_eq_true]
  refine Need.mk ⟨rfl, by decide, by decide, fun p hp => by simp only [List.mem_singleton] at hp; subst hp; exact ⟨rfl, rfl, rfl⟩⟩ ?_
  simp only [ne_eq, not_false_eq_true, Option.map_some, Option.map_none, List.map_cons, List.map_nil, Bool.not_true, Bool.not_false, decide_true, decide_false, List.getElem?_cons_zero, List.getElem?_cons_succ, ↓aw1, ↓aw2, ↓aw17, aw3, aw4, aw5, aw6, aw7, aw8, aw9, aw10, aw11, aw12, aw13, aw14, aw15, aw16, aw19, Nat.reduceLeDiff, if_true, if_false, Nat.reduceEqDiff, Nat.reduceAdd, beq_self_eq_true, beq_true, beq_false, Bool.false_eq_true]
  refine LoopF.by (α := Nat × Cap × List UInt8) (fun x => ⟨[(0, str s), (3, .sl x.2.1 (byA x.2.2)), (7, str s), (8, i64 s.size), (9, i64 x.1)], h⟩) (fun x => s.size - x.1)
    (fun x => x.1 ≤ s.size ∧ x.2.2 = 34 :: (s.data.toList.take x.1).flatMap qc ∧ (x.2.1 = .own 1 ∨ x.2.1 = .full)) (0, .full, [34]) ⟨by omega, by simp, .inr rfl⟩ (weak_of rfl (by simp [look])) ?_
  rintro ⟨i, cap, out⟩ ⟨h1, h2, h3⟩
  simp only at h1 h2 h3
  have hol : out.length ≤ 4 * i + 1 := by
    have := flat_len (s.data.toList.take i)
    rw [h2]; simp at this ⊢; omega
  by_cases hi : i < s.size
  · have e1 : decide ((i : Int) < (s.size : Int)) = true := by rw [decide_eq_true_eq]; omega
    have w3 : IntKind.i64.wrap ((i : Int) + 1) = ((i + 1 : Nat) : Int) := by rw [wrap_i64] <;> omega
    simp only [e1, ne_eq, not_false_eq_true, Option.map_some, Option.map_none, List.map_cons, List.map_nil, Bool.not_true, Bool.not_false, decide_true, decide_false, List.getElem?_cons_zero, List.getElem?_cons_succ, ↓aw1, ↓aw2, ↓aw17, aw3, aw4, aw5, aw6, aw7, aw8, aw9, aw10, aw11, aw12, aw13, aw14, aw15, aw16, aw19, Nat.reduceLeDiff, if_true, if_false, Nat.reduceEqDiff, Nat.reduceAdd, beq_self_eq_true, beq_true, beq_false, Bool.false_eq_true]
    refine Need.mk ⟨by omega, by omega⟩ fun c hc => ?_
    have hc' : s.data.toList[i]? = some c := by rw [← bytes_get]; exact hc
    have hsn := flat_snoc _ i c hc'
    have fin : ∀ (T : List (Nat × AV)) (d : List UInt8), qc c = d → (∀ i', look T i' = look T i') → ((i + 1) ≤ s.size ∧ (out ++ d) = 34 :: (s.data.toList.take (i + 1)).flatMap qc ∧ (Cap.own 1 = .own 1 ∨ Cap.own 1 = .full)) := fun T d hd _ =>
      ⟨by omega, by rw [hsn, hd, h2]; rfl, .inl rfl⟩
    cases k1 : small c
    · have k1' : decide ((c.toNat : Int) < 32) = false := k1
      cases k2 : big c
      · have k2' : decide ((126 : Int) < (c.toNat : Int)) = false := k2
        cases k3 : isC 34 c
        · have k3' : decide ((c.toNat : Int) = 34) = false := k3
          cases k4 : isC 92 c
          · have k4' : decide ((c.toNat : Int) = 92) = false := k4
            have hq : qc c = [c] := by simp only [qc, k1, k2, k3, k4, Bool.or_self, Bool.false_eq_true, if_false]
            rcases h3 with rfl | rfl
            all_goals
              simp only [k1', k2', k3', k4', ne_eq, not_false_eq_true, Option.map_some, Option.map_none, List.map_cons, List.map_nil, Bool.not_true, Bool.not_false, decide_true, decide_false, List.getElem?_cons_zero, List.getElem?_cons_succ, ↓aw1, ↓aw2, ↓aw17, aw3, aw4, aw5, aw6, aw7, aw8, aw9, aw10, aw11, aw12, aw13, aw14, aw15, aw16, aw19, Nat.reduceLeDiff, if_true, if_false, Nat.reduceEqDiff, Nat.reduceAdd, beq_self_eq_true, beq_true, beq_false, Bool.false_eq_true]
              refine Need.mk ⟨rfl, by decide, by decide, fun p hp => by simp only [List.mem_singleton] at hp; subst hp; exact ⟨rfl, rfl, rfl⟩⟩ ?_
              simp only [ne_eq, not_false_eq_true, Option.map_some, Option.map_none, List.map_cons, List.map_nil, Bool.not_true, Bool.not_false, decide_true, decide_false, List.getElem?_cons_zero, List.getElem?_cons_succ, ↓aw1, ↓aw2, ↓aw17, aw3, aw4, aw5, aw6, aw7, aw8, aw9, aw10, aw11, aw12, aw13, aw14, aw15, aw16, aw19, Nat.reduceLeDiff, if_true, if_false, Nat.reduceEqDiff, Nat.reduceAdd, beq_self_eq_true, beq_true, beq_false, Bool.false_eq_true]
              refine Need.mk ⟨by decide, by first | exact .inl trivial | exact .inr (fitb _), fitb [c], oneb [c], by simp; omega, by simp; omega⟩ ?_
              simp only [w3, ne_eq, not_false_eq_true, Option.map_some, Option.map_none, List.map_cons, List.map_nil, Bool.not_true, Bool.not_false, decide_true, decide_false, List.getElem?_cons_zero, List.getElem?_cons_succ, ↓aw1, ↓aw2, ↓aw17, aw3, aw4, aw5, aw6, aw7, aw8, aw9, aw10, aw11, aw12, aw13, aw14, aw15, aw16, aw19, Nat.reduceLeDiff, if_true, if_false, Nat.reduceEqDiff, Nat.reduceAdd, beq_self_eq_true, beq_true, beq_false, Bool.false_eq_true]
              exact ⟨(i + 1, .own 1, out ++ [c]), fin [] _ hq (fun _ => rfl), by simp only; omega, weak_of rfl (by simp [look])⟩
          · have k4' : decide ((c.toNat : Int) = 92) = true := k4
            have hq : qc c = [92, c] := by simp only [qc, k1, k2, k3, k4, Bool.or_self, Bool.false_eq_true, if_false, Bool.or_true, if_true]
            rcases h3 with rfl | rfl
            all_goals
              simp only [k1', k2', k3', k4', ne_eq, not_false_eq_true, Option.map_some, Option.map_none, List.map_cons, List.map_nil, Bool.not_true, Bool.not_false, decide_true, decide_false, List.getElem?_cons_zero, List.getElem?_cons_succ, ↓aw1, ↓aw2, ↓aw17, aw3, aw4, aw5, aw6, aw7, aw8, aw9, aw10, aw11, aw12, aw13, aw14, aw15, aw16, aw19, Nat.reduceLeDiff, if_true, if_false, Nat.reduceEqDiff, Nat.reduceAdd, beq_self_eq_true, beq_true, beq_false, Bool.false_eq_true]
              refine Need.mk ⟨rfl, by decide, by decide, fun p hp => by
                simp only [List.mem_cons, List.not_mem_nil, or_false] at hp
                rcases hp with rfl | rfl <;> exact ⟨rfl, rfl, rfl⟩⟩ ?_
              simp only [ne_eq, not_false_eq_true, Option.map_some, Option.map_none, List.map_cons, List.map_nil, Bool.not_true, Bool.not_false, decide_true, decide_false, List.getElem?_cons_zero, List.getElem?_cons_succ, ↓aw1, ↓aw2, ↓aw17, aw3, aw4, aw5, aw6, aw7, aw8, aw9, aw10, aw11, aw12, aw13, aw14, aw15, aw16, aw19, Nat.reduceLeDiff, if_true, if_false, Nat.reduceEqDiff, Nat.reduceAdd, beq_self_eq_true, beq_true, beq_false, Bool.false_eq_true]
              refine Need.mk ⟨by decide, by first | exact .inl trivial | exact .inr (fitb _), fitb [92, c], oneb [92, c], by simp; omega, by simp; omega⟩ ?_
              simp only [w3, ne_eq, not_false_eq_true, Option.map_some, Option.map_none, List.map_cons, List.map_nil, Bool.not_true, Bool.not_false, decide_true, decide_false, List.getElem?_cons_zero, List.getElem?_cons_succ, ↓aw1, ↓aw2, ↓aw17, aw3, aw4, aw5, aw6, aw7, aw8, aw9, aw10, aw11, aw12, aw13, aw14, aw15, aw16, aw19, Nat.reduceLeDiff, if_true, if_false, Nat.reduceEqDiff, Nat.reduceAdd, beq_self_eq_true, beq_true, beq_false, Bool.false_eq_true]
              exact ⟨(i + 1, .own 1, out ++ [92, c]), fin [] _ hq (fun _ => rfl), by simp only; omega, weak_of rfl (by simp [look])⟩
        · have k3' : decide ((c.toNat : Int) = 34) = true := k3
          have hq : qc c = [92, c] := by simp only [qc, k1, k2, k3, Bool.or_self, Bool.false_eq_true, if_false, Bool.true_or, if_true]
          rcases h3 with rfl | rfl
          all_goals
            simp only [k1', k2', k3', ne_eq, not_false_eq_true, Option.map_some, Option.map_none, List.map_cons, List.map_nil, Bool.not_true, Bool.not_false, decide_true, decide_false, List.getElem?_cons_zero, List.getElem?_cons_succ, ↓aw1, ↓aw2, ↓aw17, aw3, aw4, aw5, aw6, aw7, aw8, aw9, aw10, aw11, aw12, aw13, aw14, aw15, aw16, aw19, Nat.reduceLeDiff, if_true, if_false, Nat.reduceEqDiff, Nat.reduceAdd, beq_self_eq_true, beq_true, beq_false, Bool.false_eq_true]
            refine Need.mk ⟨rfl, by decide, by decide, fun p hp => by
              simp only [List.mem_cons, List.not_mem_nil, or_false] at hp
              rcases hp with rfl | rfl <;> exact ⟨rfl, rfl, rfl⟩⟩ ?_
            simp only [ne_eq, not_false_eq_true, Option.map_some, Option.map_none, List.map_cons, List.map_nil, Bool.not_true, Bool.not_false, decide_true, decide_false, List.getElem?_cons_zero, List.getElem?_cons_succ, ↓aw1, ↓aw2, ↓aw17, aw3, aw4, aw5, aw6, aw7, aw8, aw9, aw10, aw11, aw12, aw13, aw14, aw15, aw16, aw19, Nat.reduceLeDiff, if_true, if_false, Nat.reduceEqDiff, Nat.reduceAdd, beq_self_eq_true, beq_true, beq_false, Bool.false_eq_true]
            refine Need.mk ⟨by decide, by first | exact .inl trivial | exact .inr (fitb _), fitb [92, c], oneb [92, c], by simp; omega, by simp; omega⟩ ?_
            simp only [w3, ne_eq, not_false_eq_true, Option.map_some, Option.map_none, List.map_cons, List.map_nil, Bool.not_true, Bool.not_false, decide_true, decide_false, List.getElem?_cons_zero, List.getElem?_cons_succ, ↓aw1, ↓aw2, ↓aw17, aw3, aw4, aw5, aw6, aw7, aw8, aw9, aw10, aw11, aw12, aw13, aw14, aw15, aw16, aw19, Nat.reduceLeDiff, if_true, if_false, Nat.reduceEqDiff, Nat.reduceAdd, beq_self_eq_true, beq_true, beq_false, Bool.false_eq_true]
            exact ⟨(i + 1, .own 1, out ++ [92, c]), fin [] _ hq (fun _ => rfl), by simp only; omega, weak_of rfl (by simp [look])⟩
      · have k2' : decide ((126 : Int) < (c.toNat : Int)) = true := k2
        have hq : qc c = [92, 120, hx (c.toNat / 16), hx (c.toNat % 16)] := by simp only [qc, k1, k2, Bool.or_true, if_true]
        rcases h3 with rfl | rfl
        all_goals
          have hd : c.toNat / 16 < 16 := by have := c.toNat_lt; omega
          have hm : c.toNat % 16 < 16 := Nat.mod_lt _ (by decide)
          have hsz : (⟨#[48, 49, 50, 51, 52, 53, 54, 55, 56, 57, 97, 98, 99, 100, 101, 102]⟩ : ByteArray).size = 16 := rfl
          simp only [k1', k2', ne_eq, not_false_eq_true, Option.map_some, Option.map_none, List.map_cons, List.map_nil, Bool.not_true, Bool.not_false, decide_true, decide_false, List.getElem?_cons_zero, List.getElem?_cons_succ, ↓aw1, ↓aw2, ↓aw17, aw3, aw4, aw5, aw6, aw7, aw8, aw9, aw10, aw11, aw12, aw13, aw14, aw15, aw16, aw19, Nat.reduceLeDiff, if_true, if_false, Nat.reduceEqDiff, Nat.reduceAdd, beq_self_eq_true, beq_true, beq_false, Bool.false_eq_true]
          refine Need.mk (by decide) ?_
          simp only [shr4, ne_eq, not_false_eq_true, Option.map_some, Option.map_none, List.map_cons, List.map_nil, Bool.not_true, Bool.not_false, decide_true, decide_false, List.getElem?_cons_zero, List.getElem?_cons_succ, ↓aw1, ↓aw2, ↓aw17, aw3, aw4, aw5, aw6, aw7, aw8, aw9, aw10, aw11, aw12, aw13, aw14, aw15, aw16, aw19, Nat.reduceLeDiff, if_true, if_false, Nat.reduceEqDiff, Nat.reduceAdd, beq_self_eq_true, beq_true, beq_false, Bool.false_eq_true]
          refine Need.mk ⟨by omega, by rw [hsz]; omega⟩ fun x1 hx1 => ?_
          obtain rfl := hx_get (show hexs[c.toNat / 16]? = some x1 from hx1)
          simp only [and15, ne_eq, not_false_eq_true, Option.map_some, Option.map_none, List.map_cons, List.map_nil, Bool.not_true, Bool.not_false, decide_true, decide_false, List.getElem?_cons_zero, List.getElem?_cons_succ, ↓aw1, ↓aw2, ↓aw17, aw3, aw4, aw5, aw6, aw7, aw8, aw9, aw10, aw11, aw12, aw13, aw14, aw15, aw16, aw19, Nat.reduceLeDiff, if_true, if_false, Nat.reduceEqDiff, Nat.reduceAdd, beq_self_eq_true, beq_true, beq_false, Bool.false_eq_true]
          refine Need.mk ⟨by omega, by rw [hsz]; omega⟩ fun x2 hx2 => ?_
          obtain rfl := hx_get (show hexs[c.toNat % 16]? = some x2 from hx2)
          simp only [ne_eq, not_false_eq_true, Option.map_some, Option.map_none, List.map_cons, List.map_nil, Bool.not_true, Bool.not_false, decide_true, decide_false, List.getElem?_cons_zero, List.getElem?_cons_succ, ↓aw1, ↓aw2, ↓aw17, aw3, aw4, aw5, aw6, aw7, aw8, aw9, aw10, aw11, aw12, aw13, aw14, aw15, aw16, aw19, Nat.reduceLeDiff, if_true, if_false, Nat.reduceEqDiff, Nat.reduceAdd, beq_self_eq_true, beq_true, beq_false, Bool.false_eq_true]
          refine Need.mk ⟨rfl, by decide, by decide, fun p hp => by
            simp only [List.mem_cons, List.not_mem_nil, or_false] at hp
            rcases hp with rfl | rfl | rfl | rfl <;> exact ⟨rfl, rfl, rfl⟩⟩ ?_
          simp only [ne_eq, not_false_eq_true, Option.map_some, Option.map_none, List.map_cons, List.map_nil, Bool.not_true, Bool.not_false, decide_true, decide_false, List.getElem?_cons_zero, List.getElem?_cons_succ, ↓aw1, ↓aw2, ↓aw17, aw3, aw4, aw5, aw6, aw7, aw8, aw9, aw10, aw11, aw12, aw13, aw14, aw15, aw16, aw19, Nat.reduceLeDiff, if_true, if_false, Nat.reduceEqDiff, Nat.reduceAdd, beq_self_eq_true, beq_true, beq_false, Bool.false_eq_true]
          refine Need.mk ⟨by decide, by first | exact .inl trivial | exact .inr (fitb _), fitb [92, 120, hx (c.toNat / 16), hx (c.toNat % 16)], oneb [92, 120, hx (c.toNat / 16), hx (c.toNat % 16)], by simp; omega, by simp; omega⟩ ?_
          simp only [w3, ne_eq, not_false_eq_true, Option.map_some, Option.map_none, List.map_cons, List.map_nil, Bool.not_true, Bool.not_false, decide_true, decide_false, List.getElem?_cons_zero, List.getElem?_cons_succ, ↓aw1, ↓aw2, ↓aw17, aw3, aw4, aw5, aw6, aw7, aw8, aw9, aw10, aw11, aw12, aw13, aw14, aw15, aw16, aw19, Nat.reduceLeDiff, if_true, if_false, Nat.reduceEqDiff, Nat.reduceAdd, beq_self_eq_true, beq_true, beq_false, Bool.false_eq_true]
          exact ⟨(i + 1, .own 1, out ++ [92, 120, hx (c.toNat / 16), hx (c.toNat % 16)]), fin [] _ hq (fun _ => rfl), by simp only; omega, weak_of rfl (by simp [look])⟩
    · have k1' : decide ((c.toNat : Int) < 32) = true := k1
      have hq : qc c = [92, 120, hx (c.toNat / 16), hx (c.toNat % 16)] := by simp only [qc, k1, Bool.true_or, if_true]
      rcases h3 with rfl | rfl
      all_goals
        have hd : c.toNat / 16 < 16 := by have := c.toNat_lt; omega
        have hm : c.toNat % 16 < 16 := Nat.mod_lt _ (by decide)
        have hsz : (⟨#[48, 49, 50, 51, 52, 53, 54, 55, 56, 57, 97, 98, 99, 100, 101, 102]⟩ : ByteArray).size = 16 := rfl
        simp only [k1', ne_eq, not_false_eq_true, Option.map_some, Option.map_none, List.map_cons, List.map_nil, Bool.not_true, Bool.not_false, decide_true, decide_false, List.getElem?_cons_zero, List.getElem?_cons_succ, ↓aw1, ↓aw2, ↓aw17, aw3, aw4, aw5, aw6, aw7, aw8, aw9, aw10, aw11, aw12, aw13, aw14, aw15, aw16, aw19, Nat.reduceLeDiff, if_true, if_false, Nat.reduceEqDiff, Nat.reduceAdd, beq_self_eq_true, beq_true, beq_false, Bool.false_eq_true]
        refine Need.mk (by decide) ?_
        simp only [shr4, ne_eq, not_false_eq_true, Option.map_some, Option.map_none, List.map_cons, List.map_nil, Bool.not_true, Bool.not_false, decide_true, decide_false, List.getElem?_cons_zero, List.getElem?_cons_succ, ↓aw1, ↓aw2, ↓aw17, aw3, aw4, aw5, aw6, aw7, aw8, aw9, aw10, aw11, aw12, aw13, aw14, aw15, aw16, aw19, Nat.reduceLeDiff, if_true, if_false, Nat.reduceEqDiff, Nat.reduceAdd, beq_self_eq_true, beq_true, beq_false, Bool.false_eq_true]
        refine Need.mk ⟨by omega, by rw [hsz]; omega⟩ fun x1 hx1 => ?_
        obtain rfl := hx_get (show hexs[c.toNat / 16]? = some x1 from hx1)
        simp only [and15, ne_eq, not_false_eq_true, Option.map_some, Option.map_none, List.map_cons, List.map_nil, Bool.not_true, Bool.not_false, decide_true, decide_false, List.getElem?_cons_zero, List.getElem?_cons_succ, ↓aw1, ↓aw2, ↓aw17, aw3, aw4, aw5, aw6, aw7, aw8, aw9, aw10, aw11, aw12, aw13, aw14, aw15, aw16, aw19, Nat.reduceLeDiff, if_true, if_false, Nat.reduceEqDiff, Nat.reduceAdd, beq_self_eq_true, beq_true, beq_false, Bool.false_eq_true]
        refine Need.mk ⟨by omega, by rw [hsz]; omega⟩ fun x2 hx2 => ?_
        obtain rfl := hx_get (show hexs[c.toNat % 16]? = some x2 from hx2)
        simp only [ne_eq, not_false_eq_true, Option.map_some, Option.map_none, List.map_cons, List.map_nil, Bool.not_true, Bool.not_false, decide_true, decide_false, List.getElem?_cons_zero, List.getElem?_cons_succ, ↓aw1, ↓aw2, ↓aw17, aw3, aw4, aw5, aw6, aw7, aw8, aw9, aw10, aw11, aw12, aw13, aw14, aw15, aw16, aw19, Nat.reduceLeDiff, if_true, if_false, Nat.reduceEqDiff, Nat.reduceAdd, beq_self_eq_true, beq_true, beq_false, Bool.false_eq_true]
        refine Need.mk ⟨rfl, by decide, by decide, fun p hp => by
          simp only [List.mem_cons, List.not_mem_nil, or_false] at hp
          rcases hp with rfl | rfl | rfl | rfl <;> exact ⟨rfl, rfl, rfl⟩⟩ ?_
        simp only [ne_eq, not_false_eq_true, Option.map_some, Option.map_none, List.map_cons, List.map_nil, Bool.not_true, Bool.not_false, decide_true, decide_false, List.getElem?_cons_zero, List.getElem?_cons_succ, ↓aw1, ↓aw2, ↓aw17, aw3, aw4, aw5, aw6, aw7, aw8, aw9, aw10, aw11, aw12, aw13, aw14, aw15, aw16, aw19, Nat.reduceLeDiff, if_true, if_false, Nat.reduceEqDiff, Nat.reduceAdd, beq_self_eq_true, beq_true, beq_false, Bool.false_eq_true]
        refine Need.mk ⟨by decide, by first | exact .inl trivial | exact .inr (fitb _), fitb [92, 120, hx (c.toNat / 16), hx (c.toNat % 16)], oneb [92, 120, hx (c.toNat / 16), hx (c.toNat % 16)], by simp; omega, by simp; omega⟩ ?_
        simp only [w3, ne_eq, not_false_eq_true, Option.map_some, Option.map_none, List.map_cons, List.map_nil, Bool.not_true, Bool.not_false, decide_true, decide_false, List.getElem?_cons_zero, List.getElem?_cons_succ, ↓aw1, ↓aw2, ↓aw17, aw3, aw4, aw5, aw6, aw7, aw8, aw9, aw10, aw11, aw12, aw13, aw14, aw15, aw16, aw19, Nat.reduceLeDiff, if_true, if_false, Nat.reduceEqDiff, Nat.reduceAdd, beq_self_eq_true, beq_true, beq_false, Bool.false_eq_true]
        exact ⟨(i + 1, .own 1, out ++ [92, 120, hx (c.toNat / 16), hx (c.toNat % 16)]), fin [] _ hq (fun _ => rfl), by simp only; omega, weak_of rfl (by simp [look])⟩
  · have e1 : decide ((i : Int) < (s.size : Int)) = false := by rw [decide_eq_false_iff_not]; omega
    rw [List.take_of_length_le (by omega)] at h2
    have hfin : (⟨(out ++ [34]).toArray⟩ : ByteArray) = ⟨(quo s.data.toList).toArray⟩ := by rw [h2]; rfl
    have hb2 : bitesOf (byA out ++ [AV.lit (.int .u8 34)]) = some (out ++ [34]) := by have := bitesOf_byA (out ++ [34]); simpa [byA] using this
    rcases h3 with rfl | rfl
    all_goals
      simp only [e1, ne_eq, not_false_eq_true, Option.map_some, Option.map_none, List.map_cons, List.map_nil, Bool.not_true, Bool.not_false, decide_true, decide_false, List.getElem?_cons_zero, List.getElem?_cons_succ, ↓aw1, ↓aw2, ↓aw17, aw3, aw4, aw5, aw6, aw7, aw8, aw9, aw10, aw11, aw12, aw13, aw14, aw15, aw16, aw19, Nat.reduceLeDiff, if_true, if_false, Nat.reduceEqDiff, Nat.reduceAdd, beq_self_eq_true, beq_true, beq_false, Bool.false_eq_true]
      refine Need.mk ⟨rfl, by decide, by decide, fun p hp => by simp only [List.mem_singleton] at hp; subst hp; exact ⟨rfl, rfl, rfl⟩⟩ ?_
      simp only [ne_eq, not_false_eq_true, Option.map_some, Option.map_none, List.map_cons, List.map_nil, Bool.not_true, Bool.not_false, decide_true, decide_false, List.getElem?_cons_zero, List.getElem?_cons_succ, ↓aw1, ↓aw2, ↓aw17, aw3, aw4, aw5, aw6, aw7, aw8, aw9, aw10, aw11, aw12, aw13, aw14, aw15, aw16, aw19, Nat.reduceLeDiff, if_true, if_false, Nat.reduceEqDiff, Nat.reduceAdd, beq_self_eq_true, beq_true, beq_false, Bool.false_eq_true]
      refine Need.mk ⟨by decide, by first | exact .inl trivial | exact .inr (fitb _), fitb [34], oneb [34], by simp; omega, by simp; omega⟩ ?_
      simp only [hb2, hfin, ne_eq, not_false_eq_true, Option.map_some, Option.map_none, List.map_cons, List.map_nil, Bool.not_true, Bool.not_false, decide_true, decide_false, List.getElem?_cons_zero, List.getElem?_cons_succ, ↓aw1, ↓aw2, ↓aw17, aw3, aw4, aw5, aw6, aw7, aw8, aw9, aw10, aw11, aw12, aw13, aw14, aw15, aw16, aw19, Nat.reduceLeDiff, if_true, if_false, Nat.reduceEqDiff, Nat.reduceAdd, beq_self_eq_true, beq_true, beq_false, Bool.false_eq_true]
      exact Fin.same0 hcl rfl ⟨rfl, rfl⟩
end Go.Abs.Fr

namespace Go.Abs.Fr
open Go Go.Abs Go.Proofs
set_option linter.unusedSimpArgs false
set_option maxRecDepth 100000

set_option maxHeartbeats 2000000 in
theorem rquoted_ev (s : ByteArray) (hs : s.size < 2 ^ 30) (h : List AObj) : EvR E0 66 [str s] h (str ⟨(quo s.data.toList).toArray⟩) := by
  refine ev_of (fn := Tryd.f66) (hs := [(8, 1021), (8, 11), (10, 0), (10, 3), (11, 0), (11, 4), (12, 0), (12, 3)]) Tryd.func66 c66 (by simp) fun hcl => ?_
  have hlen : s.data.toList.length = s.size := by simp
  simp only [ac66, ne_eq, not_false_eq_true, Option.map_some, Option.map_none, List.map_cons, List.map_nil, Bool.not_true, Bool.not_false, decide_true, decide_false, List.getElem?_cons_zero, List.getElem?_cons_succ, ↓aw1, ↓aw2, ↓aw17, aw3, aw4, aw5, aw6, aw7, aw8, aw9, aw10, aw11, aw12, aw13, aw14, aw15, aw16, aw19, Nat.reduceLeDiff, if_true, if_false, Nat.reduceEqDiff, Nat.reduceAdd, beq_self_eq_true, beq_true, beq_false, Bool.false_eq_true]
  refine Need.mk ⟨rfl, by decide, by decide, fun p hp => by simp only [List.mem_singleton] at hp; subst hp; exact ⟨rfl, rfl, rfl⟩⟩ ?_
  simp only [ne_eq, not_false_eq_true, Option.map_some, Option.map_none, List.map_cons, List.map_nil, Bool.not_true, Bool.not_false, decide_true, decide_false, List.getElem?_cons_zero, List.getElem?_cons_succ, ↓aw1, ↓aw2, ↓aw17, aw3, aw4, aw5, aw6, aw7, aw8, aw9, aw10, aw11, aw12, aw13, aw14, aw15, aw16, aw19, Nat.reduceLeDiff, if_true, if_false, Nat.reduceEqDiff, Nat.reduceAdd, beq_self_eq_true, beq_true, beq_false, Bool.false_eq_true]
  refine LoopF.by (α := Nat × Cap × List UInt8) (fun x => ⟨[(0, str s), (3, str hexs), (4, .sl x.2.1 (byA x.2.2)), (5, i64 x.1)], h⟩) (fun x => s.size - x.1)
    (fun x => x.1 ≤ s.size ∧ x.2.2 = 34 :: (s.data.toList.take x.1).flatMap qc ∧ (x.2.1 = .own 1 ∨ x.2.1 = .full)) (0, .full, [34]) ⟨by omega, by simp, .inr rfl⟩ (weak_of rfl (by simp [look, hexs])) ?_
  rintro ⟨i, cap, out⟩ ⟨h1, h2, h3⟩
  simp only at h1 h2 h3
  have hol : out.length ≤ 4 * i + 1 := by
    have := flat_len (s.data.toList.take i)
    rw [h2]; simp at this ⊢; omega
  by_cases hi : i < s.size
  · have e1 : decide ((i : Int) < (s.size : Int)) = true := by rw [decide_eq_true_eq]; omega
    have w3 : IntKind.i64.wrap ((i : Int) + 1) = ((i + 1 : Nat) : Int) := by rw [wrap_i64] <;> omega
    simp only [e1, ne_eq, not_false_eq_true, Option.map_some, Option.map_none, List.map_cons, List.map_nil, Bool.not_true, Bool.not_false, decide_true, decide_false, List.getElem?_cons_zero, List.getElem?_cons_succ, ↓aw1, ↓aw2, ↓aw17, aw3, aw4, aw5, aw6, aw7, aw8, aw9, aw10, aw11, aw12, aw13, aw14, aw15, aw16, aw19, Nat.reduceLeDiff, if_true, if_false, Nat.reduceEqDiff, Nat.reduceAdd, beq_self_eq_true, beq_true, beq_false, Bool.false_eq_true]
    refine Need.mk ⟨by omega, by omega⟩ fun c hc => ?_
    have hc' : s.data.toList[i]? = some c := by rw [← bytes_get]; exact hc
    have hsn := flat_snoc _ i c hc'
    have fin : ∀ (T : List (Nat × AV)) (d : List UInt8), qc c = d → (∀ i', look T i' = look T i') → ((i + 1) ≤ s.size ∧ (out ++ d) = 34 :: (s.data.toList.take (i + 1)).flatMap qc ∧ (Cap.own 1 = .own 1 ∨ Cap.own 1 = .full)) := fun T d hd _ =>
      ⟨by omega, by rw [hsn, hd, h2]; rfl, .inl rfl⟩
    cases k1 : small c
    · have k1' : decide ((c.toNat : Int) < 32) = false := k1
      cases k2 : big c
      · have k2' : decide ((126 : Int) < (c.toNat : Int)) = false := k2
        cases k3 : isC 34 c
        · have k3' : decide ((c.toNat : Int) = 34) = false := k3
          cases k4 : isC 92 c
          · have k4' : decide ((c.toNat : Int) = 92) = false := k4
            have hq : qc c = [c] := by simp only [qc, k1, k2, k3, k4, Bool.or_self, Bool.false_eq_true, if_false]
            rcases h3 with rfl | rfl
            all_goals
              simp only [k1', k2', k3', k4', ne_eq, not_false_eq_true, Option.map_some, Option.map_none, List.map_cons, List.map_nil, Bool.not_true, Bool.not_false, decide_true, decide_false, List.getElem?_cons_zero, List.getElem?_cons_succ, ↓aw1, ↓aw2, ↓aw17, aw3, aw4, aw5, aw6, aw7, aw8, aw9, aw10, aw11, aw12, aw13, aw14, aw15, aw16, aw19, Nat.reduceLeDiff, if_true, if_false, Nat.reduceEqDiff, Nat.reduceAdd, beq_self_eq_true, beq_true, beq_false, Bool.false_eq_true]
              refine Need.mk ⟨rfl, by decide, by decide, fun p hp => by simp only [List.mem_singleton] at hp; subst hp; exact ⟨rfl, rfl, rfl⟩⟩ ?_
              simp only [ne_eq, not_false_eq_true, Option.map_some, Option.map_none, List.map_cons, List.map_nil, Bool.not_true, Bool.not_false, decide_true, decide_false, List.getElem?_cons_zero, List.getElem?_cons_succ, ↓aw1, ↓aw2, ↓aw17, aw3, aw4, aw5, aw6, aw7, aw8, aw9, aw10, aw11, aw12, aw13, aw14, aw15, aw16, aw19, Nat.reduceLeDiff, if_true, if_false, Nat.reduceEqDiff, Nat.reduceAdd, beq_self_eq_true, beq_true, beq_false, Bool.false_eq_true]
              refine Need.mk ⟨by decide, by first | exact .inl trivial | exact .inr (fitb _), fitb [c], oneb [c], by simp; omega, by simp; omega⟩ ?_
              simp only [w3, ne_eq, not_false_eq_true, Option.map_some, Option.map_none, List.map_cons, List.map_nil, Bool.not_true, Bool.not_false, decide_true, decide_false, List.getElem?_cons_zero, List.getElem?_cons_succ, ↓aw1, ↓aw2, ↓aw17, aw3, aw4, aw5, aw6, aw7, aw8, aw9, aw10, aw11, aw12, aw13, aw14, aw15, aw16, aw19, Nat.reduceLeDiff, if_true, if_false, Nat.reduceEqDiff, Nat.reduceAdd, beq_self_eq_true, beq_true, beq_false, Bool.false_eq_true]
              exact ⟨(i + 1, .own 1, out ++ [c]), fin [] _ hq (fun _ => rfl), by simp only; omega, weak_of rfl (by simp [look])⟩
          · have k4' : decide ((c.toNat : Int) = 92) = true := k4
            have hq : qc c = [92, c] := by simp only [qc, k1, k2, k3, k4, Bool.or_self, Bool.false_eq_true, if_false, Bool.or_true, if_true]
            rcases h3 with rfl | rfl
            all_goals
              simp only [k1', k2', k3', k4', ne_eq, not_false_eq_true, Option.map_some, Option.map_none, List.map_cons, List.map_nil, Bool.not_true, Bool.not_false, decide_true, decide_false, List.getElem?_cons_zero, List.getElem?_cons_succ, ↓aw1, ↓aw2, ↓aw17, aw3, aw4, aw5, aw6, aw7, aw8, aw9, aw10, aw11, aw12, aw13, aw14, aw15, aw16, aw19, Nat.reduceLeDiff, if_true, if_false, Nat.reduceEqDiff, Nat.reduceAdd, beq_self_eq_true, beq_true, beq_false, Bool.false_eq_true]
              refine Need.mk ⟨rfl, by decide, by decide, fun p hp => by simp only [List.mem_singleton] at hp; subst hp; exact ⟨rfl, rfl, rfl⟩⟩ ?_
              simp only [ne_eq, not_false_eq_true, Option.map_some, Option.map_none, List.map_cons, List.map_nil, Bool.not_true, Bool.not_false, decide_true, decide_false, List.getElem?_cons_zero, List.getElem?_cons_succ, ↓aw1, ↓aw2, ↓aw17, aw3, aw4, aw5, aw6, aw7, aw8, aw9, aw10, aw11, aw12, aw13, aw14, aw15, aw16, aw19, Nat.reduceLeDiff, if_true, if_false, Nat.reduceEqDiff, Nat.reduceAdd, beq_self_eq_true, beq_true, beq_false, Bool.false_eq_true]
              refine Need.mk ⟨by decide, by first | exact .inl trivial | exact .inr (fitb _), fitb [92], oneb [92], by simp; omega, by simp; omega⟩ ?_
              simp only [ne_eq, not_false_eq_true, Option.map_some, Option.map_none, List.map_cons, List.map_nil, Bool.not_true, Bool.not_false, decide_true, decide_false, List.getElem?_cons_zero, List.getElem?_cons_succ, ↓aw1, ↓aw2, ↓aw17, aw3, aw4, aw5, aw6, aw7, aw8, aw9, aw10, aw11, aw12, aw13, aw14, aw15, aw16, aw19, Nat.reduceLeDiff, if_true, if_false, Nat.reduceEqDiff, Nat.reduceAdd, beq_self_eq_true, beq_true, beq_false, Bool.false_eq_true]
              refine Need.mk ⟨rfl, by decide, by decide, fun p hp => by simp only [List.mem_singleton] at hp; subst hp; exact ⟨rfl, rfl, rfl⟩⟩ ?_
              simp only [ne_eq, not_false_eq_true, Option.map_some, Option.map_none, List.map_cons, List.map_nil, Bool.not_true, Bool.not_false, decide_true, decide_false, List.getElem?_cons_zero, List.getElem?_cons_succ, ↓aw1, ↓aw2, ↓aw17, aw3, aw4, aw5, aw6, aw7, aw8, aw9, aw10, aw11, aw12, aw13, aw14, aw15, aw16, aw19, Nat.reduceLeDiff, if_true, if_false, Nat.reduceEqDiff, Nat.reduceAdd, beq_self_eq_true, beq_true, beq_false, Bool.false_eq_true]
              refine Need.mk ⟨by decide, .inl trivial, fitb [c], oneb [c], by simp; omega, by simp; omega⟩ ?_
              simp only [w3, ne_eq, not_false_eq_true, Option.map_some, Option.map_none, List.map_cons, List.map_nil, Bool.not_true, Bool.not_false, decide_true, decide_false, List.getElem?_cons_zero, List.getElem?_cons_succ, ↓aw1, ↓aw2, ↓aw17, aw3, aw4, aw5, aw6, aw7, aw8, aw9, aw10, aw11, aw12, aw13, aw14, aw15, aw16, aw19, Nat.reduceLeDiff, if_true, if_false, Nat.reduceEqDiff, Nat.reduceAdd, beq_self_eq_true, beq_true, beq_false, Bool.false_eq_true]
              exact ⟨(i + 1, .own 1, out ++ [92, c]), fin [] _ hq (fun _ => rfl), by simp only; omega, weak_of rfl (by simp [look])⟩
        · have k3' : decide ((c.toNat : Int) = 34) = true := k3
          have hq : qc c = [92, c] := by simp only [qc, k1, k2, k3, Bool.or_self, Bool.false_eq_true, if_false, Bool.true_or, if_true]
          rcases h3 with rfl | rfl
          all_goals
            simp only [k1', k2', k3', ne_eq, not_false_eq_true, Option.map_some, Option.map_none, List.map_cons, List.map_nil, Bool.not_true, Bool.not_false, decide_true, decide_false, List.getElem?_cons_zero, List.getElem?_cons_succ, ↓aw1, ↓aw2, ↓aw17, aw3, aw4, aw5, aw6, aw7, aw8, aw9, aw10, aw11, aw12, aw13, aw14, aw15, aw16, aw19, Nat.reduceLeDiff, if_true, if_false, Nat.reduceEqDiff, Nat.reduceAdd, beq_self_eq_true, beq_true, beq_false, Bool.false_eq_true]
            refine Need.mk ⟨rfl, by decide, by decide, fun p hp => by simp only [List.mem_singleton] at hp; subst hp; exact ⟨rfl, rfl, rfl⟩⟩ ?_
            simp only [ne_eq, not_false_eq_true, Option.map_some, Option.map_none, List.map_cons, List.map_nil, Bool.not_true, Bool.not_false, decide_true, decide_false, List.getElem?_cons_zero, List.getElem?_cons_succ, ↓aw1, ↓aw2, ↓aw17, aw3, aw4, aw5, aw6, aw7, aw8, aw9, aw10, aw11, aw12, aw13, aw14, aw15, aw16, aw19, Nat.reduceLeDiff, if_true, if_false, Nat.reduceEqDiff, Nat.reduceAdd, beq_self_eq_true, beq_true, beq_false, Bool.false_eq_true]
            refine Need.mk ⟨by decide, by first | exact .inl trivial | exact .inr (fitb _), fitb [92], oneb [92], by simp; omega, by simp; omega⟩ ?_
            simp only [ne_eq, not_false_eq_true, Option.map_some, Option.map_none, List.map_cons, List.map_nil, Bool.not_true, Bool.not_false, decide_true, decide_false, List.getElem?_cons_zero, List.getElem?_cons_succ, ↓aw1, ↓aw2, ↓aw17, aw3, aw4, aw5, aw6, aw7, aw8, aw9, aw10, aw11, aw12, aw13, aw14, aw15, aw16, aw19, Nat.reduceLeDiff, if_true, if_false, Nat.reduceEqDiff, Nat.reduceAdd, beq_self_eq_true, beq_true, beq_false, Bool.false_eq_true]
            refine Need.mk ⟨rfl, by decide, by decide, fun p hp => by simp only [List.mem_singleton] at hp; subst hp; exact ⟨rfl, rfl, rfl⟩⟩ ?_
            simp only [ne_eq, not_false_eq_true, Option.map_some, Option.map_none, List.map_cons, List.map_nil, Bool.not_true, Bool.not_false, decide_true, decide_false, List.getElem?_cons_zero, List.getElem?_cons_succ, ↓aw1, ↓aw2, ↓aw17, aw3, aw4, aw5, aw6, aw7, aw8, aw9, aw10, aw11, aw12, aw13, aw14, aw15, aw16, aw19, Nat.reduceLeDiff, if_true, if_false, Nat.reduceEqDiff, Nat.reduceAdd, beq_self_eq_true, beq_true, beq_false, Bool.false_eq_true]
            refine Need.mk ⟨by decide, .inl trivial, fitb [c], oneb [c], by simp; omega, by simp; omega⟩ ?_
            simp only [w3, ne_eq, not_false_eq_true, Option.map_some, Option.map_none, List.map_cons, List.map_nil, Bool.not_true, Bool.not_false, decide_true, decide_false, List.getElem?_cons_zero, List.getElem?_cons_succ, ↓aw1, ↓aw2, ↓aw17, aw3, aw4, aw5, aw6, aw7, aw8, aw9, aw10, aw11, aw12, aw13, aw14, aw15, aw16, aw19, Nat.reduceLeDiff, if_true, if_false, Nat.reduceEqDiff, Nat.reduceAdd, beq_self_eq_true, beq_true, beq_false, Bool.false_eq_true]
            exact ⟨(i + 1, .own 1, out ++ [92, c]), fin [] _ hq (fun _ => rfl), by simp only; omega, weak_of rfl (by simp [look])⟩
      · have k2' : decide ((126 : Int) < (c.toNat : Int)) = true := k2
        have hq : qc c = [92, 120, hx (c.toNat / 16), hx (c.toNat % 16)] := by simp only [qc, k1, k2, Bool.or_true, if_true]
        rcases h3 with rfl | rfl
        all_goals
          have hd : c.toNat / 16 < 16 := by have := c.toNat_lt; omega
          have hm : c.toNat % 16 < 16 := Nat.mod_lt _ (by decide)
          have hsz : hexs.size = 16 := rfl
          simp only [k1', k2', ne_eq, not_false_eq_true, Option.map_some, Option.map_none, List.map_cons, List.map_nil, Bool.not_true, Bool.not_false, decide_true, decide_false, List.getElem?_cons_zero, List.getElem?_cons_succ, ↓aw1, ↓aw2, ↓aw17, aw3, aw4, aw5, aw6, aw7, aw8, aw9, aw10, aw11, aw12, aw13, aw14, aw15, aw16, aw19, Nat.reduceLeDiff, if_true, if_false, Nat.reduceEqDiff, Nat.reduceAdd, beq_self_eq_true, beq_true, beq_false, Bool.false_eq_true]
          refine Need.mk (by decide) ?_
          simp only [quo16, ne_eq, not_false_eq_true, Option.map_some, Option.map_none, List.map_cons, List.map_nil, Bool.not_true, Bool.not_false, decide_true, decide_false, List.getElem?_cons_zero, List.getElem?_cons_succ, ↓aw1, ↓aw2, ↓aw17, aw3, aw4, aw5, aw6, aw7, aw8, aw9, aw10, aw11, aw12, aw13, aw14, aw15, aw16, aw19, Nat.reduceLeDiff, if_true, if_false, Nat.reduceEqDiff, Nat.reduceAdd, beq_self_eq_true, beq_true, beq_false, Bool.false_eq_true]
          refine Need.mk ⟨by omega, by rw [hsz]; omega⟩ fun x1 hx1 => ?_
          obtain rfl := hx_get (show hexs[c.toNat / 16]? = some x1 from hx1)
          simp only [ne_eq, not_false_eq_true, Option.map_some, Option.map_none, List.map_cons, List.map_nil, Bool.not_true, Bool.not_false, decide_true, decide_false, List.getElem?_cons_zero, List.getElem?_cons_succ, ↓aw1, ↓aw2, ↓aw17, aw3, aw4, aw5, aw6, aw7, aw8, aw9, aw10, aw11, aw12, aw13, aw14, aw15, aw16, aw19, Nat.reduceLeDiff, if_true, if_false, Nat.reduceEqDiff, Nat.reduceAdd, beq_self_eq_true, beq_true, beq_false, Bool.false_eq_true]
          refine Need.mk (by decide) ?_
          simp only [rem16, ne_eq, not_false_eq_true, Option.map_some, Option.map_none, List.map_cons, List.map_nil, Bool.not_true, Bool.not_false, decide_true, decide_false, List.getElem?_cons_zero, List.getElem?_cons_succ, ↓aw1, ↓aw2, ↓aw17, aw3, aw4, aw5, aw6, aw7, aw8, aw9, aw10, aw11, aw12, aw13, aw14, aw15, aw16, aw19, Nat.reduceLeDiff, if_true, if_false, Nat.reduceEqDiff, Nat.reduceAdd, beq_self_eq_true, beq_true, beq_false, Bool.false_eq_true]
          refine Need.mk ⟨by omega, by rw [hsz]; omega⟩ fun x2 hx2 => ?_
          obtain rfl := hx_get (show hexs[c.toNat % 16]? = some x2 from hx2)
          simp only [ne_eq, not_false_eq_true, Option.map_some, Option.map_none, List.map_cons, List.map_nil, Bool.not_true, Bool.not_false, decide_true, decide_false, List.getElem?_cons_zero, List.getElem?_cons_succ, ↓aw1, ↓aw2, ↓aw17, aw3, aw4, aw5, aw6, aw7, aw8, aw9, aw10, aw11, aw12, aw13, aw14, aw15, aw16, aw19, Nat.reduceLeDiff, if_true, if_false, Nat.reduceEqDiff, Nat.reduceAdd, beq_self_eq_true, beq_true, beq_false, Bool.false_eq_true]
          refine Need.mk ⟨rfl, by decide, by decide, fun p hp => by
            simp only [List.mem_cons, List.not_mem_nil, or_false] at hp
            rcases hp with rfl | rfl | rfl | rfl <;> exact ⟨rfl, rfl, rfl⟩⟩ ?_
          simp only [ne_eq, not_false_eq_true, Option.map_some, Option.map_none, List.map_cons, List.map_nil, Bool.not_true, Bool.not_false, decide_true, decide_false, List.getElem?_cons_zero, List.getElem?_cons_succ, ↓aw1, ↓aw2, ↓aw17, aw3, aw4, aw5, aw6, aw7, aw8, aw9, aw10, aw11, aw12, aw13, aw14, aw15, aw16, aw19, Nat.reduceLeDiff, if_true, if_false, Nat.reduceEqDiff, Nat.reduceAdd, beq_self_eq_true, beq_true, beq_false, Bool.false_eq_true]
          refine Need.mk ⟨by decide, by first | exact .inl trivial | exact .inr (fitb _), fitb [92, 120, hx (c.toNat / 16), hx (c.toNat % 16)], oneb [92, 120, hx (c.toNat / 16), hx (c.toNat % 16)], by simp; omega, by simp; omega⟩ ?_
          simp only [w3, ne_eq, not_false_eq_true, Option.map_some, Option.map_none, List.map_cons, List.map_nil, Bool.not_true, Bool.not_false, decide_true, decide_false, List.getElem?_cons_zero, List.getElem?_cons_succ, ↓aw1, ↓aw2, ↓aw17, aw3, aw4, aw5, aw6, aw7, aw8, aw9, aw10, aw11, aw12, aw13, aw14, aw15, aw16, aw19, Nat.reduceLeDiff, if_true, if_false, Nat.reduceEqDiff, Nat.reduceAdd, beq_self_eq_true, beq_true, beq_false, Bool.false_eq_true]
          exact ⟨(i + 1, .own 1, out ++ [92, 120, hx (c.toNat / 16), hx (c.toNat % 16)]), fin [] _ hq (fun _ => rfl), by simp only; omega, weak_of rfl (by simp [look])⟩
    · have k1' : decide ((c.toNat : Int) < 32) = true := k1
      have hq : qc c = [92, 120, hx (c.toNat / 16), hx (c.toNat % 16)] := by simp only [qc, k1, Bool.true_or, if_true]
      rcases h3 with rfl | rfl
      all_goals
        have hd : c.toNat / 16 < 16 := by have := c.toNat_lt; omega
        have hm : c.toNat % 16 < 16 := Nat.mod_lt _ (by decide)
        have hsz : hexs.size = 16 := rfl
        simp only [k1', ne_eq, not_false_eq_true, Option.map_some, Option.map_none, List.map_cons, List.map_nil, Bool.not_true, Bool.not_false, decide_true, decide_false, List.getElem?_cons_zero, List.getElem?_cons_succ, ↓aw1, ↓aw2, ↓aw17, aw3, aw4, aw5, aw6, aw7, aw8, aw9, aw10, aw11, aw12, aw13, aw14, aw15, aw16, aw19, Nat.reduceLeDiff, if_true, if_false, Nat.reduceEqDiff, Nat.reduceAdd, beq_self_eq_true, beq_true, beq_false, Bool.false_eq_true]
        refine Need.mk (by decide) ?_
        simp only [quo16, ne_eq, not_false_eq_true, Option.map_some, Option.map_none, List.map_cons, List.map_nil, Bool.not_true, Bool.not_false, decide_true, decide_false, List.getElem?_cons_zero, List.getElem?_cons_succ, ↓aw1, ↓aw2, ↓aw17, aw3, aw4, aw5, aw6, aw7, aw8, aw9, aw10, aw11, aw12, aw13, aw14, aw15, aw16, aw19, Nat.reduceLeDiff, if_true, if_false, Nat.reduceEqDiff, Nat.reduceAdd, beq_self_eq_true, beq_true, beq_false, Bool.false_eq_true]
        refine Need.mk ⟨by omega, by rw [hsz]; omega⟩ fun x1 hx1 => ?_
        obtain rfl := hx_get (show hexs[c.toNat / 16]? = some x1 from hx1)
        simp only [ne_eq, not_false_eq_true, Option.map_some, Option.map_none, List.map_cons, List.map_nil, Bool.not_true, Bool.not_false, decide_true, decide_false, List.getElem?_cons_zero, List.getElem?_cons_succ, ↓aw1, ↓aw2, ↓aw17, aw3, aw4, aw5, aw6, aw7, aw8, aw9, aw10, aw11, aw12, aw13, aw14, aw15, aw16, aw19, Nat.reduceLeDiff, if_true, if_false, Nat.reduceEqDiff, Nat.reduceAdd, beq_self_eq_true, beq_true, beq_false, Bool.false_eq_true]
        refine Need.mk (by decide) ?_
        simp only [rem16, ne_eq, not_false_eq_true, Option.map_some, Option.map_none, List.map_cons, List.map_nil, Bool.not_true, Bool.not_false, decide_true, decide_false, List.getElem?_cons_zero, List.getElem?_cons_succ, ↓aw1, ↓aw2, ↓aw17, aw3, aw4, aw5, aw6, aw7, aw8, aw9, aw10, aw11, aw12, aw13, aw14, aw15, aw16, aw19, Nat.reduceLeDiff, if_true, if_false, Nat.reduceEqDiff, Nat.reduceAdd, beq_self_eq_true, beq_true, beq_false, Bool.false_eq_true]
        refine Need.mk ⟨by omega, by rw [hsz]; omega⟩ fun x2 hx2 => ?_
        obtain rfl := hx_get (show hexs[c.toNat % 16]? = some x2 from hx2)
        simp only [ne_eq, not_false_eq_true, Option.map_some, Option.map_none, List.map_cons, List.map_nil, Bool.not_true, Bool.not_false, decide_true, decide_false, List.getElem?_cons_zero, List.getElem?_cons_succ, ↓aw1, ↓aw2, ↓aw17, aw3, aw4, aw5, aw6, aw7, aw8, aw9, aw10, aw11, aw12, aw13, aw14, aw15, aw16, aw19, Nat.reduceLeDiff, if_true, if_false, Nat.reduceEqDiff, Nat.reduceAdd, beq_self_eq_true, beq_true, beq_false, Bool.false_eq_true]
        refine Need.mk ⟨rfl, by decide, by decide, fun p hp => by
          simp only [List.mem_cons, List.not_mem_nil, or_false] at hp
          rcases hp with rfl | rfl | rfl | rfl <;> exact ⟨rfl, rfl, rfl⟩⟩ ?_
        simp only [ne_eq, not_false_eq_true, Option.map_some, Option.map_none, List.map_cons, List.map_nil, Bool.not_true, Bool.not_false, decide_true, decide_false, List.getElem?_cons_zero, List.getElem?_cons_succ, ↓aw1, ↓aw2, ↓aw17, aw3, aw4, aw5, aw6, aw7, aw8, aw9, aw10, aw11, aw12, aw13, aw14, aw15, aw16, aw19, Nat.reduceLeDiff, if_true, if_false, Nat.reduceEqDiff, Nat.reduceAdd, beq_self_eq_true, beq_true, beq_false, Bool.false_eq_true]
        refine Need.mk ⟨by decide, by first | exact .inl trivial | exact .inr (fitb _), fitb [92, 120, hx (c.toNat / 16), hx (c.toNat % 16)], oneb [92, 120, hx (c.toNat / 16), hx (c.toNat % 16)], by simp; omega, by simp; omega⟩ ?_
        simp only [w3, ne_eq, not_false_eq_true, Option.map_some, Option.map_none, List.map_cons, List.map_nil, Bool.not_true, Bool.not_false, decide_true, decide_false, List.getElem?_cons_zero, List.getElem?_cons_succ, ↓aw1, ↓aw2, ↓aw17, aw3, aw4, aw5, aw6, aw7, aw8, aw9, aw10, aw11, aw12, aw13, aw14, aw15, aw16, aw19, Nat.reduceLeDiff, if_true, if_false, Nat.reduceEqDiff, Nat.reduceAdd, beq_self_eq_true, beq_true, beq_false, Bool.false_eq_true]
        exact ⟨(i + 1, .own 1, out ++ [92, 120, hx (c.toNat / 16), hx (c.toNat % 16)]), fin [] _ hq (fun _ => rfl), by simp only; omega, weak_of rfl (by simp [look])⟩
  · have e1 : decide ((i : Int) < (s.size : Int)) = false := by rw [decide_eq_false_iff_not]; omega
    rw [List.take_of_length_le (by omega)] at h2
    have hfin : (⟨(out ++ [34]).toArray⟩ : ByteArray) = ⟨(quo s.data.toList).toArray⟩ := by rw [h2]; rfl
    have hb2 : bitesOf (byA out ++ [AV.lit (.int .u8 34)]) = some (out ++ [34]) := by have := bitesOf_byA (out ++ [34]); simpa [byA] using this
    rcases h3 with rfl | rfl
    all_goals
      simp only [e1, ne_eq, not_false_eq_true, Option.map_some, Option.map_none, List.map_cons, List.map_nil, Bool.not_true, Bool.not_false, decide_true, decide_false, List.getElem?_cons_zero, List.getElem?_cons_succ, ↓aw1, ↓aw2, ↓aw17, aw3, aw4, aw5, aw6, aw7, aw8, aw9, aw10, aw11, aw12, aw13, aw14, aw15, aw16, aw19, Nat.reduceLeDiff, if_true, if_false, Nat.reduceEqDiff, Nat.reduceAdd, beq_self_eq_true, beq_true, beq_false, Bool.false_eq_true]
      refine Need.mk ⟨rfl, by decide, by decide, fun p hp => by simp only [List.mem_singleton] at hp; subst hp; exact ⟨rfl, rfl, rfl⟩⟩ ?_
      simp only [ne_eq, not_false_eq_true, Option.map_some, Option.map_none, List.map_cons, List.map_nil, Bool.not_true, Bool.not_false, decide_true, decide_false, List.getElem?_cons_zero, List.getElem?_cons_succ, ↓aw1, ↓aw2, ↓aw17, aw3, aw4, aw5, aw6, aw7, aw8, aw9, aw10, aw11, aw12, aw13, aw14, aw15, aw16, aw19, Nat.reduceLeDiff, if_true, if_false, Nat.reduceEqDiff, Nat.reduceAdd, beq_self_eq_true, beq_true, beq_false, Bool.false_eq_true]
      refine Need.mk ⟨by decide, by first | exact .inl trivial | exact .inr (fitb _), fitb [34], oneb [34], by simp; omega, by simp; omega⟩ ?_
      simp only [hb2, hfin, ne_eq, not_false_eq_true, Option.map_some, Option.map_none, List.map_cons, List.map_nil, Bool.not_true, Bool.not_false, decide_true, decide_false, List.getElem?_cons_zero, List.getElem?_cons_succ, ↓aw1, ↓aw2, ↓aw17, aw3, aw4, aw5, aw6, aw7, aw8, aw9, aw10, aw11, aw12, aw13, aw14, aw15, aw16, aw19, Nat.reduceLeDiff, if_true, if_false, Nat.reduceEqDiff, Nat.reduceAdd, beq_self_eq_true, beq_true, beq_false, Bool.false_eq_true]
      exact Fin.same0 hcl rfl ⟨rfl, rfl⟩
end Go.Abs.Fr
