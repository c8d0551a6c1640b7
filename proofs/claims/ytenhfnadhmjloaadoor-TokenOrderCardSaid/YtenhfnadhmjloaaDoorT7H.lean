/- A text in quotes. -/
import Derived.Test.YtenhfnadhmjloaaDoorT7G
set_option linter.all false
namespace Go.Abs.T7
open Go Go.Abs Go.Proofs
set_option linter.unusedSimpArgs false

def small (c : UInt8) : Bool := decide ((c.toNat : Int) < 32)
def big (c : UInt8) : Bool := decide ((126 : Int) < (c.toNat : Int))

/-- A text in quotes from the n-th character on: what it says, how long it is there. -/
def qt (b : List UInt8) (at_ : Nat) : Nat → Nat → List UInt8 → Option (List UInt8 × Nat)
  | 0, _, _ => none
  | f + 1, n, out =>
    if b.length ≤ at_ + n then none
    else if isC 34 (pk b (at_ + n)) then
      (if isC 34 (pk b (at_ + (n + 1))) then qt b at_ f (n + 2) (out ++ [pk b (at_ + n)]) else some (out, n + 1))
    else if small (pk b (at_ + n)) || big (pk b (at_ + n)) then none
    else qt b at_ f (n + 1) (out ++ [pk b (at_ + n)])

def qtv : Option (List UInt8 × Nat) → AV
  | some (s, n) => .tup [.lit (.string ⟨s.toArray⟩), i64 n, boolv true]
  | none => .tup [.lit (.string ⟨#[]⟩), i64 (0 : Nat), boolv false]

theorem fit1 (x : UInt8) : Fit 1 [u8v x] := by
  intro e he; simp only [List.mem_singleton] at he; subst he; exact ⟨rfl, rfl⟩
theorem one1 (x : UInt8) : allOne [u8v x] := by
  intro e he; simp only [List.mem_singleton] at he; subst he; rfl

theorem quoted_ev {h : List AObj} {s : Nat} {b : List UInt8} {at_ : Nat} (hs : h[s]? = some (txt b at_)) (hk : at_ ≤ b.length) (hb : b.length < 2 ^ 40) :
    EvR E0 28 [.ref s 0] h (qtv (qt b at_ (b.length + 2) 1 [])) := by
  refine ev_of (fn := Tryd.f28) (hs := [(12, 0), (12, 4)]) Tryd.func28 c28 (by simp) fun hcl => ?_
  generalize hR : qt b at_ (b.length + 2) 1 [] = R
  simp only [ac28, ne_eq, not_false_eq_true, Option.map_some, Option.map_none, List.map_cons, List.map_nil, Bool.not_true, Bool.not_false, decide_true, decide_false, List.getElem?_cons_zero, List.getElem?_cons_succ, ↓aw1, ↓aw2, ↓aw17, aw3, aw4, aw5, aw6, aw7, aw8, aw9, aw10, aw11, aw12, aw13, aw14, aw15, aw16, Nat.reduceLeDiff, if_true, if_false, Nat.reduceEqDiff, Nat.reduceAdd, beq_self_eq_true, beq_true, beq_false, Bool.false_eq_true]
  refine LoopF.by (α := (Nat × Nat) × Cap × List UInt8) (fun x => ⟨[(0, .ref s 0), (6, i64 x.1.1), (5, .sl x.2.1 (byA x.2.2))], h⟩) (fun x => x.1.2)
    (fun x => b.length < at_ + x.1.1 + x.1.2 ∧ at_ + x.1.1 ≤ b.length + 2 ∧ qt b at_ x.1.2 x.1.1 x.2.2 = R ∧ x.2.2.length ≤ x.1.1 ∧ (x.2.1 = .own 1 ∨ x.2.1 = .full))
    ((1, b.length + 2), .full, []) ⟨by simp <;> omega, by simp <;> omega, hR, by simp, .inr rfl⟩ (weak_of rfl (by simp [look])) ?_
  rintro ⟨⟨n, f⟩, c, out⟩ ⟨h1, h2, h3, h4, h5⟩
  simp only at h1 h2 h3 h4 h5
  have lb : (byA b).length = b.length := by simp
  have hw0 : IntKind.i64.wrap ((at_ : Int) + (n : Int)) = ((at_ + n : Nat) : Int) := by rw [wrap_i64] <;> omega
  have hw1 : IntKind.i64.wrap ((n : Int) + 1) = ((n + 1 : Nat) : Int) := by rw [wrap_i64] <;> omega
  have hw2 : IntKind.i64.wrap (((n + 1 : Nat) : Int) + 1) = ((n + 2 : Nat) : Int) := by rw [wrap_i64] <;> omega
  by_cases hn : b.length ≤ at_ + n
  · have e1 : decide (((at_ + n : Nat) : Int) < (b.length : Int)) = false := by simp; omega
    simp only [hs, lb, e1, hw0, ne_eq, not_false_eq_true, Option.map_some, Option.map_none, List.map_cons, List.map_nil, Bool.not_true, Bool.not_false, decide_true, decide_false, List.getElem?_cons_zero, List.getElem?_cons_succ, ↓aw1, ↓aw2, ↓aw17, aw3, aw4, aw5, aw6, aw7, aw8, aw9, aw10, aw11, aw12, aw13, aw14, aw15, aw16, Nat.reduceLeDiff, if_true, if_false, Nat.reduceEqDiff, Nat.reduceAdd, beq_self_eq_true, beq_true, beq_false, Bool.false_eq_true]
    have : R = none := by rw [← h3]; cases f <;> simp [qt, hn]
    subst this
    exact Fin.same0 hcl (by simp [AV.under, unders]) ⟨rfl, rfl⟩
  obtain ⟨f, rfl⟩ : ∃ f', f = f' + 1 := ⟨f - 1, by omega⟩
  have e1 : decide (((at_ + n : Nat) : Int) < (b.length : Int)) = true := by simp; omega
  simp only [qt, if_neg hn] at h3
  generalize hx : pk b (at_ + n) = x at h3
  generalize hy : pk b (at_ + (n + 1)) = y at h3
  have px : EvR E0 19 [.ref s 0, i64 n] h (u8v x) := hx ▸ peek_ev hs (by omega)
  have py : EvR E0 19 [.ref s 0, i64 (n + 1 : Nat)] h (u8v y) := hy ▸ peek_ev hs (by omega)
  rcases h5 with rfl | rfl
  · simp only [hs, lb, e1, hw0, ne_eq, not_false_eq_true, Option.map_some, Option.map_none, List.map_cons, List.map_nil, Bool.not_true, Bool.not_false, decide_true, decide_false, List.getElem?_cons_zero, List.getElem?_cons_succ, ↓aw1, ↓aw2, ↓aw17, aw3, aw4, aw5, aw6, aw7, aw8, aw9, aw10, aw11, aw12, aw13, aw14, aw15, aw16, Nat.reduceLeDiff, if_true, if_false, Nat.reduceEqDiff, Nat.reduceAdd, beq_self_eq_true, beq_true, beq_false, Bool.false_eq_true]
    refine EvF.ret px ?_
    cases q1 : isC 34 x
    · have q1' : decide ((x.toNat : Int) = 34) = false := q1
      simp only [q1', ne_eq, not_false_eq_true, Option.map_some, Option.map_none, List.map_cons, List.map_nil, Bool.not_true, Bool.not_false, decide_true, decide_false, List.getElem?_cons_zero, List.getElem?_cons_succ, ↓aw1, ↓aw2, ↓aw17, aw3, aw4, aw5, aw6, aw7, aw8, aw9, aw10, aw11, aw12, aw13, aw14, aw15, aw16, Nat.reduceLeDiff, if_true, if_false, Nat.reduceEqDiff, Nat.reduceAdd, beq_self_eq_true, beq_true, beq_false, Bool.false_eq_true]
      cases q3 : small x
      · have q3' : decide ((x.toNat : Int) < 32) = false := q3
        simp only [q3', ne_eq, not_false_eq_true, Option.map_some, Option.map_none, List.map_cons, List.map_nil, Bool.not_true, Bool.not_false, decide_true, decide_false, List.getElem?_cons_zero, List.getElem?_cons_succ, ↓aw1, ↓aw2, ↓aw17, aw3, aw4, aw5, aw6, aw7, aw8, aw9, aw10, aw11, aw12, aw13, aw14, aw15, aw16, Nat.reduceLeDiff, if_true, if_false, Nat.reduceEqDiff, Nat.reduceAdd, beq_self_eq_true, beq_true, beq_false, Bool.false_eq_true]
        cases q4 : big x
        · have q4' : decide ((126 : Int) < (x.toNat : Int)) = false := q4
          simp only [q4', ne_eq, not_false_eq_true, Option.map_some, Option.map_none, List.map_cons, List.map_nil, Bool.not_true, Bool.not_false, decide_true, decide_false, List.getElem?_cons_zero, List.getElem?_cons_succ, ↓aw1, ↓aw2, ↓aw17, aw3, aw4, aw5, aw6, aw7, aw8, aw9, aw10, aw11, aw12, aw13, aw14, aw15, aw16, Nat.reduceLeDiff, if_true, if_false, Nat.reduceEqDiff, Nat.reduceAdd, beq_self_eq_true, beq_true, beq_false, Bool.false_eq_true]
          simp [q1, q3, q4] at h3
          refine Need.mk ⟨rfl, by decide, by decide, fun p hp => by simp only [List.mem_singleton] at hp; subst hp; exact ⟨rfl, rfl, rfl⟩⟩ ?_
          simp only [ne_eq, not_false_eq_true, Option.map_some, Option.map_none, List.map_cons, List.map_nil, Bool.not_true, Bool.not_false, decide_true, decide_false, List.getElem?_cons_zero, List.getElem?_cons_succ, ↓aw1, ↓aw2, ↓aw17, aw3, aw4, aw5, aw6, aw7, aw8, aw9, aw10, aw11, aw12, aw13, aw14, aw15, aw16, Nat.reduceLeDiff, if_true, if_false, Nat.reduceEqDiff, Nat.reduceAdd, beq_self_eq_true, beq_true, beq_false, Bool.false_eq_true]
          refine Need.mk ⟨by decide, .inl trivial, fit1 x, one1 x, by simp; omega, by simp; omega⟩ ?_
          simp only [hw1, ne_eq, not_false_eq_true, Option.map_some, Option.map_none, List.map_cons, List.map_nil, Bool.not_true, Bool.not_false, decide_true, decide_false, List.getElem?_cons_zero, List.getElem?_cons_succ, ↓aw1, ↓aw2, ↓aw17, aw3, aw4, aw5, aw6, aw7, aw8, aw9, aw10, aw11, aw12, aw13, aw14, aw15, aw16, Nat.reduceLeDiff, if_true, if_false, Nat.reduceEqDiff, Nat.reduceAdd, beq_self_eq_true, beq_true, beq_false, Bool.false_eq_true]
          exact ⟨((n + 1, f), .own 1, out ++ [x]), ⟨by simp; omega, by simp; omega, h3, by simp; omega, .inl rfl⟩, by simp, weak_of rfl (by simp [look])⟩
        · have q4' : decide ((126 : Int) < (x.toNat : Int)) = true := q4
          simp only [q4', ne_eq, not_false_eq_true, Option.map_some, Option.map_none, List.map_cons, List.map_nil, Bool.not_true, Bool.not_false, decide_true, decide_false, List.getElem?_cons_zero, List.getElem?_cons_succ, ↓aw1, ↓aw2, ↓aw17, aw3, aw4, aw5, aw6, aw7, aw8, aw9, aw10, aw11, aw12, aw13, aw14, aw15, aw16, Nat.reduceLeDiff, if_true, if_false, Nat.reduceEqDiff, Nat.reduceAdd, beq_self_eq_true, beq_true, beq_false, Bool.false_eq_true]
          simp [q1, q3, q4] at h3
          subst h3
          exact Fin.same0 hcl (by simp [AV.under, unders]) ⟨rfl, rfl⟩
      · have q3' : decide ((x.toNat : Int) < 32) = true := q3
        simp only [q3', ne_eq, not_false_eq_true, Option.map_some, Option.map_none, List.map_cons, List.map_nil, Bool.not_true, Bool.not_false, decide_true, decide_false, List.getElem?_cons_zero, List.getElem?_cons_succ, ↓aw1, ↓aw2, ↓aw17, aw3, aw4, aw5, aw6, aw7, aw8, aw9, aw10, aw11, aw12, aw13, aw14, aw15, aw16, Nat.reduceLeDiff, if_true, if_false, Nat.reduceEqDiff, Nat.reduceAdd, beq_self_eq_true, beq_true, beq_false, Bool.false_eq_true]
        simp [q1, q3] at h3
        subst h3
        exact Fin.same0 hcl (by simp [AV.under, unders]) ⟨rfl, rfl⟩
    · have q1' : decide ((x.toNat : Int) = 34) = true := q1
      simp only [q1', hw1, ne_eq, not_false_eq_true, Option.map_some, Option.map_none, List.map_cons, List.map_nil, Bool.not_true, Bool.not_false, decide_true, decide_false, List.getElem?_cons_zero, List.getElem?_cons_succ, ↓aw1, ↓aw2, ↓aw17, aw3, aw4, aw5, aw6, aw7, aw8, aw9, aw10, aw11, aw12, aw13, aw14, aw15, aw16, Nat.reduceLeDiff, if_true, if_false, Nat.reduceEqDiff, Nat.reduceAdd, beq_self_eq_true, beq_true, beq_false, Bool.false_eq_true]
      refine EvF.ret py ?_
      cases q2 : isC 34 y
      · have q2' : decide ((y.toNat : Int) = 34) = false := q2
        simp only [q2', hw1, bitesOf_byA, ne_eq, not_false_eq_true, Option.map_some, Option.map_none, List.map_cons, List.map_nil, Bool.not_true, Bool.not_false, decide_true, decide_false, List.getElem?_cons_zero, List.getElem?_cons_succ, ↓aw1, ↓aw2, ↓aw17, aw3, aw4, aw5, aw6, aw7, aw8, aw9, aw10, aw11, aw12, aw13, aw14, aw15, aw16, Nat.reduceLeDiff, if_true, if_false, Nat.reduceEqDiff, Nat.reduceAdd, beq_self_eq_true, beq_true, beq_false, Bool.false_eq_true]
        simp [q1, q2] at h3
        subst h3
        exact Fin.same0 hcl (by simp [AV.under, unders]) ⟨rfl, rfl⟩
      · have q2' : decide ((y.toNat : Int) = 34) = true := q2
        simp only [q1', q2', hw1, ne_eq, not_false_eq_true, Option.map_some, Option.map_none, List.map_cons, List.map_nil, Bool.not_true, Bool.not_false, decide_true, decide_false, List.getElem?_cons_zero, List.getElem?_cons_succ, ↓aw1, ↓aw2, ↓aw17, aw3, aw4, aw5, aw6, aw7, aw8, aw9, aw10, aw11, aw12, aw13, aw14, aw15, aw16, Nat.reduceLeDiff, if_true, if_false, Nat.reduceEqDiff, Nat.reduceAdd, beq_self_eq_true, beq_true, beq_false, Bool.false_eq_true]
        simp [q1, q2] at h3
        refine Need.mk ⟨rfl, by decide, by decide, fun p hp => by simp only [List.mem_singleton] at hp; subst hp; exact ⟨rfl, rfl, rfl⟩⟩ ?_
        simp only [ne_eq, not_false_eq_true, Option.map_some, Option.map_none, List.map_cons, List.map_nil, Bool.not_true, Bool.not_false, decide_true, decide_false, List.getElem?_cons_zero, List.getElem?_cons_succ, ↓aw1, ↓aw2, ↓aw17, aw3, aw4, aw5, aw6, aw7, aw8, aw9, aw10, aw11, aw12, aw13, aw14, aw15, aw16, Nat.reduceLeDiff, if_true, if_false, Nat.reduceEqDiff, Nat.reduceAdd, beq_self_eq_true, beq_true, beq_false, Bool.false_eq_true]
        refine Need.mk ⟨by decide, .inl trivial, fit1 x, one1 x, by simp; omega, by simp; omega⟩ ?_
        simp only [hw2, ne_eq, not_false_eq_true, Option.map_some, Option.map_none, List.map_cons, List.map_nil, Bool.not_true, Bool.not_false, decide_true, decide_false, List.getElem?_cons_zero, List.getElem?_cons_succ, ↓aw1, ↓aw2, ↓aw17, aw3, aw4, aw5, aw6, aw7, aw8, aw9, aw10, aw11, aw12, aw13, aw14, aw15, aw16, Nat.reduceLeDiff, if_true, if_false, Nat.reduceEqDiff, Nat.reduceAdd, beq_self_eq_true, beq_true, beq_false, Bool.false_eq_true]
        exact ⟨((n + 2, f), .own 1, out ++ [x]), ⟨by simp; omega, by simp; omega, h3, by simp; omega, .inl rfl⟩, by simp, weak_of rfl (by simp [look])⟩
  · simp only [hs, lb, e1, hw0, ne_eq, not_false_eq_true, Option.map_some, Option.map_none, List.map_cons, List.map_nil, Bool.not_true, Bool.not_false, decide_true, decide_false, List.getElem?_cons_zero, List.getElem?_cons_succ, ↓aw1, ↓aw2, ↓aw17, aw3, aw4, aw5, aw6, aw7, aw8, aw9, aw10, aw11, aw12, aw13, aw14, aw15, aw16, Nat.reduceLeDiff, if_true, if_false, Nat.reduceEqDiff, Nat.reduceAdd, beq_self_eq_true, beq_true, beq_false, Bool.false_eq_true]
    refine EvF.ret px ?_
    cases q1 : isC 34 x
    · have q1' : decide ((x.toNat : Int) = 34) = false := q1
      simp only [q1', ne_eq, not_false_eq_true, Option.map_some, Option.map_none, List.map_cons, List.map_nil, Bool.not_true, Bool.not_false, decide_true, decide_false, List.getElem?_cons_zero, List.getElem?_cons_succ, ↓aw1, ↓aw2, ↓aw17, aw3, aw4, aw5, aw6, aw7, aw8, aw9, aw10, aw11, aw12, aw13, aw14, aw15, aw16, Nat.reduceLeDiff, if_true, if_false, Nat.reduceEqDiff, Nat.reduceAdd, beq_self_eq_true, beq_true, beq_false, Bool.false_eq_true]
      cases q3 : small x
      · have q3' : decide ((x.toNat : Int) < 32) = false := q3
        simp only [q3', ne_eq, not_false_eq_true, Option.map_some, Option.map_none, List.map_cons, List.map_nil, Bool.not_true, Bool.not_false, decide_true, decide_false, List.getElem?_cons_zero, List.getElem?_cons_succ, ↓aw1, ↓aw2, ↓aw17, aw3, aw4, aw5, aw6, aw7, aw8, aw9, aw10, aw11, aw12, aw13, aw14, aw15, aw16, Nat.reduceLeDiff, if_true, if_false, Nat.reduceEqDiff, Nat.reduceAdd, beq_self_eq_true, beq_true, beq_false, Bool.false_eq_true]
        cases q4 : big x
        · have q4' : decide ((126 : Int) < (x.toNat : Int)) = false := q4
          simp only [q4', ne_eq, not_false_eq_true, Option.map_some, Option.map_none, List.map_cons, List.map_nil, Bool.not_true, Bool.not_false, decide_true, decide_false, List.getElem?_cons_zero, List.getElem?_cons_succ, ↓aw1, ↓aw2, ↓aw17, aw3, aw4, aw5, aw6, aw7, aw8, aw9, aw10, aw11, aw12, aw13, aw14, aw15, aw16, Nat.reduceLeDiff, if_true, if_false, Nat.reduceEqDiff, Nat.reduceAdd, beq_self_eq_true, beq_true, beq_false, Bool.false_eq_true]
          simp [q1, q3, q4] at h3
          refine Need.mk ⟨rfl, by decide, by decide, fun p hp => by simp only [List.mem_singleton] at hp; subst hp; exact ⟨rfl, rfl, rfl⟩⟩ ?_
          simp only [ne_eq, not_false_eq_true, Option.map_some, Option.map_none, List.map_cons, List.map_nil, Bool.not_true, Bool.not_false, decide_true, decide_false, List.getElem?_cons_zero, List.getElem?_cons_succ, ↓aw1, ↓aw2, ↓aw17, aw3, aw4, aw5, aw6, aw7, aw8, aw9, aw10, aw11, aw12, aw13, aw14, aw15, aw16, Nat.reduceLeDiff, if_true, if_false, Nat.reduceEqDiff, Nat.reduceAdd, beq_self_eq_true, beq_true, beq_false, Bool.false_eq_true]
          refine Need.mk ⟨by decide, .inr (byA_fit out), fit1 x, one1 x, by simp; omega, by simp; omega⟩ ?_
          simp only [hw1, ne_eq, not_false_eq_true, Option.map_some, Option.map_none, List.map_cons, List.map_nil, Bool.not_true, Bool.not_false, decide_true, decide_false, List.getElem?_cons_zero, List.getElem?_cons_succ, ↓aw1, ↓aw2, ↓aw17, aw3, aw4, aw5, aw6, aw7, aw8, aw9, aw10, aw11, aw12, aw13, aw14, aw15, aw16, Nat.reduceLeDiff, if_true, if_false, Nat.reduceEqDiff, Nat.reduceAdd, beq_self_eq_true, beq_true, beq_false, Bool.false_eq_true]
          exact ⟨((n + 1, f), .own 1, out ++ [x]), ⟨by simp; omega, by simp; omega, h3, by simp; omega, .inl rfl⟩, by simp, weak_of rfl (by simp [look])⟩
        · have q4' : decide ((126 : Int) < (x.toNat : Int)) = true := q4
          simp only [q4', ne_eq, not_false_eq_true, Option.map_some, Option.map_none, List.map_cons, List.map_nil, Bool.not_true, Bool.not_false, decide_true, decide_false, List.getElem?_cons_zero, List.getElem?_cons_succ, ↓aw1, ↓aw2, ↓aw17, aw3, aw4, aw5, aw6, aw7, aw8, aw9, aw10, aw11, aw12, aw13, aw14, aw15, aw16, Nat.reduceLeDiff, if_true, if_false, Nat.reduceEqDiff, Nat.reduceAdd, beq_self_eq_true, beq_true, beq_false, Bool.false_eq_true]
          simp [q1, q3, q4] at h3
          subst h3
          exact Fin.same0 hcl (by simp [AV.under, unders]) ⟨rfl, rfl⟩
      · have q3' : decide ((x.toNat : Int) < 32) = true := q3
        simp only [q3', ne_eq, not_false_eq_true, Option.map_some, Option.map_none, List.map_cons, List.map_nil, Bool.not_true, Bool.not_false, decide_true, decide_false, List.getElem?_cons_zero, List.getElem?_cons_succ, ↓aw1, ↓aw2, ↓aw17, aw3, aw4, aw5, aw6, aw7, aw8, aw9, aw10, aw11, aw12, aw13, aw14, aw15, aw16, Nat.reduceLeDiff, if_true, if_false, Nat.reduceEqDiff, Nat.reduceAdd, beq_self_eq_true, beq_true, beq_false, Bool.false_eq_true]
        simp [q1, q3] at h3
        subst h3
        exact Fin.same0 hcl (by simp [AV.under, unders]) ⟨rfl, rfl⟩
    · have q1' : decide ((x.toNat : Int) = 34) = true := q1
      simp only [q1', hw1, ne_eq, not_false_eq_true, Option.map_some, Option.map_none, List.map_cons, List.map_nil, Bool.not_true, Bool.not_false, decide_true, decide_false, List.getElem?_cons_zero, List.getElem?_cons_succ, ↓aw1, ↓aw2, ↓aw17, aw3, aw4, aw5, aw6, aw7, aw8, aw9, aw10, aw11, aw12, aw13, aw14, aw15, aw16, Nat.reduceLeDiff, if_true, if_false, Nat.reduceEqDiff, Nat.reduceAdd, beq_self_eq_true, beq_true, beq_false, Bool.false_eq_true]
      refine EvF.ret py ?_
      cases q2 : isC 34 y
      · have q2' : decide ((y.toNat : Int) = 34) = false := q2
        simp only [q2', hw1, bitesOf_byA, ne_eq, not_false_eq_true, Option.map_some, Option.map_none, List.map_cons, List.map_nil, Bool.not_true, Bool.not_false, decide_true, decide_false, List.getElem?_cons_zero, List.getElem?_cons_succ, ↓aw1, ↓aw2, ↓aw17, aw3, aw4, aw5, aw6, aw7, aw8, aw9, aw10, aw11, aw12, aw13, aw14, aw15, aw16, Nat.reduceLeDiff, if_true, if_false, Nat.reduceEqDiff, Nat.reduceAdd, beq_self_eq_true, beq_true, beq_false, Bool.false_eq_true]
        simp [q1, q2] at h3
        subst h3
        exact Fin.same0 hcl (by simp [AV.under, unders]) ⟨rfl, rfl⟩
      · have q2' : decide ((y.toNat : Int) = 34) = true := q2
        simp only [q1', q2', hw1, ne_eq, not_false_eq_true, Option.map_some, Option.map_none, List.map_cons, List.map_nil, Bool.not_true, Bool.not_false, decide_true, decide_false, List.getElem?_cons_zero, List.getElem?_cons_succ, ↓aw1, ↓aw2, ↓aw17, aw3, aw4, aw5, aw6, aw7, aw8, aw9, aw10, aw11, aw12, aw13, aw14, aw15, aw16, Nat.reduceLeDiff, if_true, if_false, Nat.reduceEqDiff, Nat.reduceAdd, beq_self_eq_true, beq_true, beq_false, Bool.false_eq_true]
        simp [q1, q2] at h3
        refine Need.mk ⟨rfl, by decide, by decide, fun p hp => by simp only [List.mem_singleton] at hp; subst hp; exact ⟨rfl, rfl, rfl⟩⟩ ?_
        simp only [ne_eq, not_false_eq_true, Option.map_some, Option.map_none, List.map_cons, List.map_nil, Bool.not_true, Bool.not_false, decide_true, decide_false, List.getElem?_cons_zero, List.getElem?_cons_succ, ↓aw1, ↓aw2, ↓aw17, aw3, aw4, aw5, aw6, aw7, aw8, aw9, aw10, aw11, aw12, aw13, aw14, aw15, aw16, Nat.reduceLeDiff, if_true, if_false, Nat.reduceEqDiff, Nat.reduceAdd, beq_self_eq_true, beq_true, beq_false, Bool.false_eq_true]
        refine Need.mk ⟨by decide, .inr (byA_fit out), fit1 x, one1 x, by simp; omega, by simp; omega⟩ ?_
        simp only [hw2, ne_eq, not_false_eq_true, Option.map_some, Option.map_none, List.map_cons, List.map_nil, Bool.not_true, Bool.not_false, decide_true, decide_false, List.getElem?_cons_zero, List.getElem?_cons_succ, ↓aw1, ↓aw2, ↓aw17, aw3, aw4, aw5, aw6, aw7, aw8, aw9, aw10, aw11, aw12, aw13, aw14, aw15, aw16, Nat.reduceLeDiff, if_true, if_false, Nat.reduceEqDiff, Nat.reduceAdd, beq_self_eq_true, beq_true, beq_false, Bool.false_eq_true]
        exact ⟨((n + 2, f), .own 1, out ++ [x]), ⟨by simp; omega, by simp; omega, h3, by simp; omega, .inl rfl⟩, by simp, weak_of rfl (by simp [look])⟩
end Go.Abs.T7
