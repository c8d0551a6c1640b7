/- The text of constraints: shape's. -/
import Derived.Test.YthhhpaifelgcpaaDoorS08Wt
import Derived.Test.YthhhpaifelgcpaaDoorS08Row
import Derived.Test.YthhhpaifelgcpaaDoorAbsK2
set_option linter.all false
namespace Go.Abs.Fr
open Go Go.Abs Go.Proofs
set_option linter.unusedSimpArgs false
set_option maxRecDepth 100000

/-- spandrel/shape.ConText -/
def ac15 : ACode := (.seq (.region [⟨(some 1), (.box (.tmp 0)), none⟩, ⟨(some 2), (.move (.const (.string (⟨#[]⟩ : ByteArray)))), none⟩]) (.seq (.seq (.region [⟨(some 4), (.fieldAddr 0 (.tmp 1)), none⟩, ⟨(some 5), (.load none (.tmp 4)), none⟩, ⟨(some 6), (.bin .eql (.tmp 5) (.const (.int .i64 0))), none⟩, ⟨(some 7), (.move (.tmp 6)), none⟩, ⟨(some 8), (.load (some 6) (.tmp 1)), (some (7, false))⟩, ⟨(some 9), (.call (.func 13) [((.tmp 8), false)]), (some (7, false))⟩, ⟨(some 10), (.un .not (.tmp 9)), (some (7, false))⟩, ⟨(some 11), (.pick (.tmp 7) (.const (.bool true)) (.tmp 10)), none⟩]) (.cond (.tmp 11) (.seq (.region [⟨(some 2), (.move (.const (.string (⟨#[]⟩ : ByteArray)))), none⟩]) .ret) .skip)) (.seq (.region [⟨(some 12), (.build [(.lit (.pointer none)), (.lit (.slice none 0 0))] []), none⟩, ⟨(some 13), (.boxB 54 5 (.tmp 12)), none⟩, ⟨(some 3), (.move (.tmp 13)), none⟩]) (.seq (.region [⟨(some 14), (.move (.tmp 3)), none⟩, ⟨(some 15), (.load (some 6) (.tmp 1)), none⟩, ⟨(some 16), (.call (.func 27) [((.tmp 14), false), ((.tmp 15), false)]), none⟩]) (.seq (.region [⟨(some 17), (.move (.tmp 3)), none⟩, ⟨(some 18), (.nilCheck (.tmp 17)), none⟩, ⟨(some 19), (.fieldAddr 0 (.tmp 18)), none⟩, ⟨(some 20), (.call (.func 23) [((.tmp 19), false)]), none⟩, ⟨(some 2), (.move (.tmp 20)), none⟩]) .ret)))))
theorem c15 : cfn E0.P [(3, 0), (3, 1)] Tryd.f15 = some (ac15, [(.tmp 2)], 21) := by kernel_rfl
/-- (*spandrel/shape.writer).con -/
def ac27 : ACode := (.seq (.region [⟨(some 3), (.box (.tmp 1)), none⟩]) (.seq (.seq (.region [⟨(some 7), (.fieldAddr 0 (.tmp 3)), none⟩, ⟨(some 8), (.load none (.tmp 7)), none⟩, ⟨(some 9), (.bin .eql (.tmp 8) (.const (.int .i64 1))), none⟩]) (.cond (.tmp 9) (.seq (.region [⟨(some 10), (.move (.tmp 0)), none⟩, ⟨(some 11), (.load (some 6) (.tmp 3)), none⟩, ⟨(some 12), (.call (.func 49) [((.tmp 10), false), ((.tmp 11), false)]), none⟩]) .ret) .skip)) (.seq (.region [⟨(some 4), (.move (.const (.string (⟨#[32, 124, 32]⟩ : ByteArray)))), none⟩]) (.seq (.seq (.region [⟨(some 13), (.fieldAddr 0 (.tmp 3)), none⟩, ⟨(some 14), (.load none (.tmp 13)), none⟩]) (.block 0 (.seq (.region [⟨(some 16), (.bin .eql (.tmp 14) (.const (.int .i64 3))), none⟩, ⟨(some 15), (.move (.tmp 16)), none⟩]) (.cond (.tmp 15) (.region [⟨(some 4), (.move (.const (.string (⟨#[32, 94, 32]⟩ : ByteArray)))), none⟩]) (.seq (.region [⟨(some 18), (.bin .eql (.tmp 14) (.const (.int .i64 4))), none⟩, ⟨(some 17), (.move (.tmp 18)), none⟩]) (.cond (.tmp 17) (.region [⟨(some 4), (.move (.const (.string (⟨#[32, 69, 88, 67, 69, 80, 84, 32]⟩ : ByteArray)))), none⟩]) .skip)))))) (.seq (.region [⟨(some 19), (.fieldAddr 5 (.tmp 3)), none⟩, ⟨(some 20), (.load none (.tmp 19)), none⟩, ⟨(some 21), (.len false (.tmp 20)), none⟩, ⟨(some 22), (.move (.const (.int .i64 0))), none⟩]) (.block 1 (.loop (.seq (.region [⟨(some 23), (.bin .lss (.tmp 22) (.tmp 21)), none⟩]) (.seq (.cond (.tmp 23) .skip (.exit 1)) (.seq (.block 2 (.seq (.region [⟨(some 24), (.move (.tmp 22)), none⟩, ⟨(some 25), (.indexAddr 6 (.tmp 20) (.tmp 22)), none⟩, ⟨(some 26), (.load (some 6) (.tmp 25)), none⟩, ⟨(some 6), (.alloc [(.lit (.int .i64 0)), (.lit (.int .i64 0)), (.lit (.int .i64 0)), (.lit (.bool false)), (.lit (.bool false)), (.sl .full [])]), none⟩, ⟨(some 5), (.move (.tmp 24)), none⟩, ⟨none, (.store 6 (.tmp 6) (.tmp 26)), none⟩]) (.seq (.seq (.region [⟨(some 27), (.move (.tmp 5)), none⟩, ⟨(some 28), (.bin .gtr (.tmp 27) (.const (.int .i64 0))), none⟩]) (.cond (.tmp 28) (.region [⟨(some 29), (.move (.tmp 0)), none⟩, ⟨(some 30), (.move (.tmp 4)), none⟩, ⟨(some 31), (.buildSlice false 1 [(.lit (.string (⟨#[]⟩ : ByteArray)))] 1 [(0, (.tmp 30))]), none⟩, ⟨(some 32), (.call (.func 40) [((.tmp 29), false), ((.tmp 31), false)]), none⟩]) .skip)) (.seq (.seq (.region [⟨(some 33), (.fieldAddr 0 (.tmp 6)), none⟩, ⟨(some 34), (.load none (.tmp 33)), none⟩, ⟨(some 35), (.bin .eql (.tmp 34) (.const (.int .i64 1))), none⟩]) (.cond (.tmp 35) (.seq (.region [⟨(some 36), (.move (.tmp 0)), none⟩, ⟨(some 37), (.load (some 6) (.tmp 6)), none⟩, ⟨(some 38), (.call (.func 27) [((.tmp 36), false), ((.tmp 37), false)]), none⟩]) (.exit 2)) .skip)) (.seq (.region [⟨(some 39), (.move (.tmp 0)), none⟩, ⟨(some 40), (.buildSlice false 1 [(.lit (.string (⟨#[]⟩ : ByteArray)))] 1 [(0, (.const (.string (⟨#[40]⟩ : ByteArray))))]), none⟩, ⟨(some 41), (.call (.func 40) [((.tmp 39), false), ((.tmp 40), false)]), none⟩]) (.seq (.region [⟨(some 42), (.move (.tmp 0)), none⟩, ⟨(some 43), (.load (some 6) (.tmp 6)), none⟩, ⟨(some 44), (.call (.func 27) [((.tmp 42), false), ((.tmp 43), false)]), none⟩]) (.region [⟨(some 45), (.move (.tmp 0)), none⟩, ⟨(some 46), (.buildSlice false 1 [(.lit (.string (⟨#[]⟩ : ByteArray)))] 1 [(0, (.const (.string (⟨#[41]⟩ : ByteArray))))]), none⟩, ⟨(some 47), (.call (.func 40) [((.tmp 45), false), ((.tmp 46), false)]), none⟩]))))))) (.region [⟨(some 48), (.bin .add (.tmp 22) (.const (.int .i64 1))), none⟩, ⟨(some 22), (.move (.tmp 48)), none⟩])))))))))))
theorem c27 : cfn E0.P [] Tryd.f27 = some (ac27, [], 49) := by kernel_rfl
/-- (*spandrel/shape.writer).span -/
def ac49 : ACode := (.seq (.region [⟨(some 3), (.box (.tmp 1)), none⟩]) (.seq (.draw [⟨(some 6), (.fieldAddr 1 (.tmp 3)), none⟩, ⟨(some 7), (.load none (.tmp 6)), none⟩, ⟨(some 8), (.call (.func 62) [((.tmp 7), false)]), none⟩, ⟨(some 9), (.fieldAddr 2 (.tmp 3)), none⟩, ⟨(some 10), (.load none (.tmp 9)), none⟩, ⟨(some 11), (.call (.func 62) [((.tmp 10), false)]), none⟩, ⟨(some 4), (.move (.tmp 8)), none⟩, ⟨(some 5), (.move (.tmp 11)), none⟩]) (.seq (.seq (.region [⟨(some 12), (.fieldAddr 3 (.tmp 3)), none⟩, ⟨(some 13), (.load none (.tmp 12)), none⟩]) (.cond (.tmp 13) (.region [⟨(some 4), (.move (.const (.string (⟨#[77, 73, 78]⟩ : ByteArray)))), none⟩]) .skip)) (.seq (.seq (.region [⟨(some 14), (.fieldAddr 4 (.tmp 3)), none⟩, ⟨(some 15), (.load none (.tmp 14)), none⟩]) (.cond (.tmp 15) (.region [⟨(some 5), (.move (.const (.string (⟨#[77, 65, 88]⟩ : ByteArray)))), none⟩]) .skip)) (.seq (.region [⟨(some 16), (.move (.tmp 0)), none⟩, ⟨(some 17), (.move (.tmp 4)), none⟩, ⟨(some 18), (.buildSlice false 1 [(.lit (.string (⟨#[]⟩ : ByteArray)))] 1 [(0, (.tmp 17))]), none⟩, ⟨(some 19), (.call (.func 40) [((.tmp 16), false), ((.tmp 18), false)]), none⟩]) (.seq (.region [⟨(some 20), (.fieldAddr 3 (.tmp 3)), none⟩, ⟨(some 21), (.load none (.tmp 20)), none⟩, ⟨(some 22), (.move (.tmp 21)), none⟩, ⟨(some 23), (.fieldAddr 4 (.tmp 3)), (some (22, false))⟩, ⟨(some 24), (.load none (.tmp 23)), (some (22, false))⟩, ⟨(some 25), (.pick (.tmp 22) (.const (.bool true)) (.tmp 24)), none⟩, ⟨(some 26), (.move (.tmp 25)), none⟩, ⟨(some 27), (.fieldAddr 1 (.tmp 3)), (some (26, false))⟩, ⟨(some 28), (.load none (.tmp 27)), (some (26, false))⟩, ⟨(some 29), (.fieldAddr 2 (.tmp 3)), (some (26, false))⟩, ⟨(some 30), (.load none (.tmp 29)), (some (26, false))⟩, ⟨(some 31), (.bin .neq (.tmp 28) (.tmp 30)), (some (26, false))⟩, ⟨(some 32), (.pick (.tmp 26) (.const (.bool true)) (.tmp 31)), none⟩]) (.cond (.tmp 32) (.region [⟨(some 33), (.move (.tmp 0)), none⟩, ⟨(some 34), (.move (.tmp 5)), none⟩, ⟨(some 35), (.buildSlice false 1 [(.lit (.string (⟨#[]⟩ : ByteArray)))] 2 [(0, (.const (.string (⟨#[46, 46]⟩ : ByteArray)))), (1, (.tmp 34))]), none⟩, ⟨(some 36), (.call (.func 40) [((.tmp 33), false), ((.tmp 35), false)]), none⟩]) .skip)))))))
theorem c49 : cfn E0.P [] Tryd.f49 = some (ac49, [], 37) := by kernel_rfl

/-! ### The text -/
def spanT (lo hi : Int) (low high : Bool) : List UInt8 :=
  (if low then [77, 73, 78] else Lib.itoa lo) ++ (if low || (high || !decide (lo = hi)) then [46, 46] ++ (if high then [77, 65, 88] else Lib.itoa hi) else [])
def sepC (op : Int) : List UInt8 := if op = 3 then [32, 94, 32] else if op = 4 then [32, 69, 88, 67, 69, 80, 84, 32] else [32, 124, 32]
def sepT (sep : List UInt8) : List (List UInt8) → List UInt8
  | [] => []
  | x :: l => x ++ l.flatMap (sep ++ ·)
theorem sepT_snoc (sep : List UInt8) (l : List (List UInt8)) (x : List UInt8) : sepT sep (l ++ [x]) = sepT sep l ++ ((if l.length = 0 then [] else sep) ++ x) := by
  cases l with
  | nil => simp [sepT]
  | cons a l => simp [sepT]
mutual
def conT : Con → List UInt8
  | .mk o a b c d l _ => if o = 1 then spanT a b c d else sepT (sepC o) (conTs l)
def conTs : List Con → List (List UInt8)
  | [] => []
  | c :: l => (if c.op = 1 then conT c else 40 :: (conT c ++ [41])) :: conTs l
end
def itemC (c : Con) : List UInt8 := if c.op = 1 then conT c else 40 :: (conT c ++ [41])
theorem conTs_map : ∀ (l : List Con), conTs l = l.map itemC
  | [] => rfl
  | c :: l => by simp only [conTs, List.map_cons, conTs_map l, itemC]
theorem conT_eq (c : Con) : conT c = if c.op = 1 then spanT c.lo c.hi c.low c.high else sepT (sepC c.op) (c.l.map itemC) := by
  cases c; simp only [conT, conTs_map]; rfl
theorem sep_take (sep : List UInt8) (l : List Con) (i : Nat) (x : Con) (h : l[i]? = some x) : sepT sep ((l.take (i + 1)).map itemC) = sepT sep ((l.take i).map itemC) ++ ((if i = 0 then [] else sep) ++ itemC x) := by
  obtain ⟨hi, he⟩ := List.getElem?_eq_some_iff.1 h
  rw [List.take_succ_eq_append_getElem hi, he, List.map_append, List.map_cons, List.map_nil, sepT_snoc]
  simp only [List.length_map, List.length_take]
  congr 3
  rw [eq_iff_iff]; omega
theorem sepT_le (sep : List UInt8) : ∀ (l : List (List UInt8)) (i : Nat), (sepT sep (l.take i)).length ≤ (sepT sep l).length
  | [], i => by simp
  | x :: l, 0 => by simp [sepT]
  | x :: l, i + 1 => by
    have : l.flatMap (sep ++ ·) = (l.take i).flatMap (sep ++ ·) ++ (l.drop i).flatMap (sep ++ ·) := by rw [← List.flatMap_append, List.take_append_drop]
    simp only [List.take_succ_cons, sepT, List.length_append]
    rw [this, List.length_append]; omega
theorem spanT_len (lo hi : Int) (low high : Bool) (h1 : InR lo) (h2 : InR hi) : (spanT lo hi low high).length ≤ 50 := by
  have a := Lib.itoa_length_le lo h1.1 h1.2
  have b := Lib.itoa_length_le hi h2.1 h2.2
  unfold spanT
  split <;> split <;> (try split) <;> simp only [List.length_append, List.length_cons, List.length_nil] <;> omega

theorem span_ev {h : List AObj} {id : Nat} {out : List UInt8} (hid : id < h.length) (c : Con) (hlen : out.length + 100 ≤ 140737488355328) :
    Ev E0 49 [.ref id 0, conv c] (hw h id out) (fun r h' => r = .ret (.tup []) ∧ h' = hw h id (out ++ spanT c.lo c.hi c.low c.high)) := by
  refine ev_of (fn := Tryd.f49) (hs := []) Tryd.func49 c49 (by simp) fun hcl => ?_
  have hk := c.ok
  have i1 := fun h => itoa_ev c.lo hk.2.1.1 hk.2.1.2 h
  have i2 := fun h => itoa_ev c.hi hk.2.2.1 hk.2.2.2 h
  have l1 := Lib.itoa_length_le c.lo hk.2.1.1 hk.2.1.2
  have l2 := Lib.itoa_length_le c.hi hk.2.2.1 hk.2.2.2
  simp only [ac49, conv_eq, hw_len, hw_set, hw_app, hw_get, hw_ne, hw_setk, getC, getC2, hid, hL1 hid, hL2 hid, hL3 hid, hL4 hid, aw20, List.take_succ_cons, List.take_zero, List.drop_zero, List.drop_succ_cons, List.length_map, ↓awD, awP, Nat.reduceLeDiff, Nat.reduceEqDiff, Nat.reduceAdd, Nat.zero_add, Int.cast_ofNat_Int, Int.reduceLT, Int.reduceLE, Int.reduceEq]
  repeat' (first | ((first | refine EvF.ret (i1 _) ?_ | refine EvRF.ret (i1 _) ?_); simp only [aw21, hw_len, hw_set, hw_app, hw_get, hw_ne, hw_setk, getC, getC2, hid, hL1 hid, hL2 hid, hL3 hid, hL4 hid, aw21, aw20, List.take_succ_cons, List.take_zero, List.drop_zero, List.drop_succ_cons, List.length_map, ↓awD, awP, Nat.reduceLeDiff, Nat.reduceEqDiff, Nat.reduceAdd, Nat.zero_add, Int.cast_ofNat_Int, Int.reduceLT, Int.reduceLE, Int.reduceEq]) | ((first | refine EvF.ret (i2 _) ?_ | refine EvRF.ret (i2 _) ?_); simp only [aw21, hw_len, hw_set, hw_app, hw_get, hw_ne, hw_setk, getC, getC2, hid, hL1 hid, hL2 hid, hL3 hid, hL4 hid, aw21, aw20, List.take_succ_cons, List.take_zero, List.drop_zero, List.drop_succ_cons, List.length_map, ↓awD, awP, Nat.reduceLeDiff, Nat.reduceEqDiff, Nat.reduceAdd, Nat.zero_add, Int.cast_ofNat_Int, Int.reduceLT, Int.reduceLE, Int.reduceEq]) | (refine Need.mk (by simp only [litParts, List.mem_cons, List.not_mem_nil, or_false, forall_eq_or_imp, forall_eq]; refine ⟨by decide, by decide, by decide, ?_⟩; repeat' (first | exact ⟨rfl, rfl, rfl⟩ | rfl | constructor)) ?_; simp only [aw21, hw_len, hw_set, hw_app, hw_get, hw_ne, hw_setk, getC, getC2, hid, hL1 hid, hL2 hid, hL3 hid, hL4 hid, aw20, List.take_succ_cons, List.take_zero, List.drop_zero, List.drop_succ_cons, List.length_map, ↓awD, awP, Nat.reduceLeDiff, Nat.reduceEqDiff, Nat.reduceAdd, Nat.zero_add, Int.cast_ofNat_Int, Int.reduceLT, Int.reduceLE, Int.reduceEq]) | (refine BrF.mk (fun hb => ?_) (fun hb => ?_) <;> (try rw [hb]) <;> simp only [aw21, hw_len, hw_set, hw_app, hw_get, hw_ne, hw_setk, getC, getC2, hid, hL1 hid, hL2 hid, hL3 hid, hL4 hid, aw21, aw20, List.take_succ_cons, List.take_zero, List.drop_zero, List.drop_succ_cons, List.length_map, ↓awD, awP, Nat.reduceLeDiff, Nat.reduceEqDiff, Nat.reduceAdd, Nat.zero_add, Int.cast_ofNat_Int, Int.reduceLT, Int.reduceLE, Int.reduceEq]) | (refine EvF.use (put_ev (by first | exact hid | (simp only [List.length_append]; omega)) [⟨#[77, 73, 78]⟩] (by simp) (by first | omega | (simp only [tx_cons, tx_nil, List.length_append, List.length_cons, List.length_nil] at *; omega))) ?_; rintro r h' ⟨rfl, rfl⟩; simp only [aw21, tx_cons, tx_nil, List.append_nil, hw_len, hw_set, hw_app, hw_get, hw_ne, hw_setk, getC, getC2, hid, hL1 hid, hL2 hid, hL3 hid, hL4 hid, aw20, List.take_succ_cons, List.take_zero, List.drop_zero, List.drop_succ_cons, List.length_map, ↓awD, awP, Nat.reduceLeDiff, Nat.reduceEqDiff, Nat.reduceAdd, Nat.zero_add, Int.cast_ofNat_Int, Int.reduceLT, Int.reduceLE, Int.reduceEq]) | (refine EvF.use (put_ev (by first | exact hid | (simp only [List.length_append]; omega)) [⟨(Lib.itoa c.lo).toArray⟩] (by simp) (by first | omega | (simp only [tx_cons, tx_nil, List.length_append, List.length_cons, List.length_nil] at *; omega))) ?_; rintro r h' ⟨rfl, rfl⟩; simp only [aw21, tx_cons, tx_nil, List.append_nil, hw_len, hw_set, hw_app, hw_get, hw_ne, hw_setk, getC, getC2, hid, hL1 hid, hL2 hid, hL3 hid, hL4 hid, aw20, List.take_succ_cons, List.take_zero, List.drop_zero, List.drop_succ_cons, List.length_map, ↓awD, awP, Nat.reduceLeDiff, Nat.reduceEqDiff, Nat.reduceAdd, Nat.zero_add, Int.cast_ofNat_Int, Int.reduceLT, Int.reduceLE, Int.reduceEq]) | (refine EvF.use (put_ev (by first | exact hid | (simp only [List.length_append]; omega)) [⟨#[46, 46]⟩, ⟨#[77, 65, 88]⟩] (by simp) (by first | omega | (simp only [tx_cons, tx_nil, List.length_append, List.length_cons, List.length_nil] at *; omega))) ?_; rintro r h' ⟨rfl, rfl⟩; simp only [aw21, tx_cons, tx_nil, List.append_nil, hw_len, hw_set, hw_app, hw_get, hw_ne, hw_setk, getC, getC2, hid, hL1 hid, hL2 hid, hL3 hid, hL4 hid, aw20, List.take_succ_cons, List.take_zero, List.drop_zero, List.drop_succ_cons, List.length_map, ↓awD, awP, Nat.reduceLeDiff, Nat.reduceEqDiff, Nat.reduceAdd, Nat.zero_add, Int.cast_ofNat_Int, Int.reduceLT, Int.reduceLE, Int.reduceEq]) | (refine EvF.use (put_ev (by first | exact hid | (simp only [List.length_append]; omega)) [⟨#[46, 46]⟩, ⟨(Lib.itoa c.hi).toArray⟩] (by simp) (by first | omega | (simp only [tx_cons, tx_nil, List.length_append, List.length_cons, List.length_nil] at *; omega))) ?_; rintro r h' ⟨rfl, rfl⟩; simp only [aw21, tx_cons, tx_nil, List.append_nil, hw_len, hw_set, hw_app, hw_get, hw_ne, hw_setk, getC, getC2, hid, hL1 hid, hL2 hid, hL3 hid, hL4 hid, aw20, List.take_succ_cons, List.take_zero, List.drop_zero, List.drop_succ_cons, List.length_map, ↓awD, awP, Nat.reduceLeDiff, Nat.reduceEqDiff, Nat.reduceAdd, Nat.zero_add, Int.cast_ofNat_Int, Int.reduceLT, Int.reduceLE, Int.reduceEq]))
  all_goals (refine Fin.hw hid hcl rfl (by first | rfl | exact (List.append_nil _).symm | (simp only [List.append_assoc]; rfl)) ⟨rfl, ?_⟩; (try simp only [dnat, decide_eq_true_eq, decide_eq_false_iff_not, List.length_eq_zero_iff, List.length_pos_iff] at *) <;> simp [*, spanT])

set_option maxHeartbeats 2000000 in
theorem wcon_ev : ∀ (k : Nat) (c : Con), szC c ≤ k → mxC c ≤ 2 ^ 48 → ∀ {h : List AObj} {id : Nat} {out : List UInt8} (_ : id < h.length) (_ : out.length + (conT c).length + 100 ≤ 140737488355328),
    Ev E0 27 [.ref id 0, conv c] (hw h id out) (fun r h' => r = .ret (.tup []) ∧ h' = hw h id (out ++ conT c)) := by
  intro k
  induction k using Nat.strongRecOn with
  | _ k ih =>
    intro c hk hm h id out hid hlen
    refine ev_of (fn := Tryd.f27) (hs := []) Tryd.func27 c27 (by simp) fun hcl => ?_
    have hmx := mxC_eq c
    have hsz := szC_eq c
    have hln := mxCs_len c.l
    rw [conT_eq] at hlen ⊢
    by_cases h1 : c.op = 1
    · rw [if_pos h1] at hlen ⊢
      have d1 : decide (c.op = 1) = true := by rw [decide_eq_true_eq]; exact h1
      have hsp := fun (B : List AObj) (hB : id < B.length) => span_ev (h := B) (id := id) (out := out) hB c (by omega)
      simp only [conv_eq] at hsp
      simp only [ac27, conv_eq, d1, hw_len, hw_set, hw_app, hw_get, hw_ne, hw_setk, getC, getC2, hid, hL1 hid, hL2 hid, hL3 hid, hL4 hid, aw20, List.take_succ_cons, List.take_zero, List.drop_zero, List.drop_succ_cons, List.length_map, ↓awD, awP, Nat.reduceLeDiff, Nat.reduceEqDiff, Nat.reduceAdd, Nat.zero_add, Int.cast_ofNat_Int, Int.reduceLT, Int.reduceLE, Int.reduceEq]
      (refine EvF.use (hsp _ (hL1 hid _)) ?_; rintro r h' ⟨rfl, rfl⟩; simp only [d1, hw_len, hw_set, hw_app, hw_get, hw_ne, hw_setk, getC, getC2, hid, hL1 hid, hL2 hid, hL3 hid, hL4 hid, aw20, List.take_succ_cons, List.take_zero, List.drop_zero, List.drop_succ_cons, List.length_map, ↓awD, awP, Nat.reduceLeDiff, Nat.reduceEqDiff, Nat.reduceAdd, Nat.zero_add, Int.cast_ofNat_Int, Int.reduceLT, Int.reduceLE, Int.reduceEq])
      all_goals (refine Fin.hw hid hcl rfl (by first | rfl | exact (List.append_nil _).symm | (simp only [List.append_assoc]; rfl)) ⟨rfl, ?_⟩; (try simp only [dnat, decide_eq_true_eq, decide_eq_false_iff_not, List.length_eq_zero_iff, List.length_pos_iff] at *) <;> simp [*, aw21])
    · rw [if_neg h1] at hlen ⊢
      have d1 : decide (c.op = 1) = false := by rw [decide_eq_false_iff_not]; exact h1
      simp only [ac27, conv_eq, d1, hw_len, hw_set, hw_app, hw_get, hw_ne, hw_setk, getC, getC2, hid, hL1 hid, hL2 hid, hL3 hid, hL4 hid, aw20, List.take_succ_cons, List.take_zero, List.drop_zero, List.drop_succ_cons, List.length_map, ↓awD, awP, Nat.reduceLeDiff, Nat.reduceEqDiff, Nat.reduceAdd, Nat.zero_add, Int.cast_ofNat_Int, Int.reduceLT, Int.reduceLE, Int.reduceEq]
      repeat' (refine BrF.mk (fun hb => ?_) (fun hb => ?_) <;> (try rw [hb]) <;> simp only [aw21, hw_len, hw_set, hw_app, hw_get, hw_ne, hw_setk, getC, getC2, hid, hL1 hid, hL2 hid, hL3 hid, hL4 hid, aw21, aw20, List.take_succ_cons, List.take_zero, List.drop_zero, List.drop_succ_cons, List.length_map, ↓awD, awP, Nat.reduceLeDiff, Nat.reduceEqDiff, Nat.reduceAdd, Nat.zero_add, Int.cast_ofNat_Int, Int.reduceLT, Int.reduceLE, Int.reduceEq])
      all_goals (try simp only [decide_eq_true_eq, decide_eq_false_iff_not] at *)
      all_goals refine LoopF.list c.l (by omega) (γ := List AObj) (fun i J => ⟨[(0, .ref id 0), (4, str ⟨(sepC c.op).toArray⟩), (20, conl c.l), (21, i64 c.l.length), (22, i64 i)],
        hw (h ++ [AObj.cells [i64 c.op, i64 c.lo, i64 c.hi, boolv c.low, boolv c.high, conl c.l]] ++ J) id (out ++ sepT (sepC c.op) ((c.l.take i).map itemC))⟩) (fun _ _ => True) [] trivial (weak_of (by simp [sepT]) (by simp [look, sepC, *])) ?_ ?_
      all_goals first
        | (rintro J _ e1
           rw [take_len]
           simp only [e1, hw_len, hw_set, hw_app, hw_get, hw_ne, hw_setk, getC, getC2, hid, hL1 hid, hL2 hid, hL3 hid, hL4 hid, aw20, List.take_succ_cons, List.take_zero, List.drop_zero, List.drop_succ_cons, List.length_map, ↓awD, awP, Nat.reduceLeDiff, Nat.reduceEqDiff, Nat.reduceAdd, Nat.zero_add, Int.cast_ofNat_Int, Int.reduceLT, Int.reduceLE, Int.reduceEq]
           refine Fin.hw (J := [AObj.cells [i64 c.op, i64 c.lo, i64 c.hi, boolv c.low, boolv c.high, conl c.l]] ++ J) hid hcl rfl (by simp only [List.append_assoc]) ⟨rfl, rfl⟩)
        | skip
      all_goals (rintro i x J hx _ hi e1 w3)
      all_goals (have hga := map_get conv c.l i x hx)
      all_goals (have hmem := List.mem_of_getElem? hx; have hmm := mxCs_mem hmem; have hzz := szCs_mem hmem)
      all_goals (have htk := sep_take (sepC c.op) c.l i x hx; have hle := sepT_le (sepC c.op) (c.l.map itemC) (i + 1))
      all_goals (rw [← List.map_take, htk] at hle; simp only [List.length_append] at hle)
      all_goals (have hcx := fun (B : List AObj) (o : List UInt8) (hB : id < B.length) (ho : o.length + (conT x).length + 100 ≤ 140737488355328) => ih (szC x) (by omega) x (Nat.le_refl _) (by omega) (h := B) (id := id) (out := o) hB ho)
      all_goals (simp only [conv_eq] at hcx)
      all_goals (by_cases hx1 : x.op = 1)
      all_goals (by_cases hi0 : i = 0)
      all_goals first | have dx' : decide (x.op = 1) = true := decide_eq_true hx1 | have dx' : decide (x.op = 1) = false := decide_eq_false hx1
      all_goals (have d0 : decide ((0 : Int) < (i : Int)) = decide (0 < i) := by rw [decide_eq_decide]; omega)
      all_goals (first | rw [show decide (0 < i) = false by rw [decide_eq_false_iff_not]; omega] at d0 | rw [show decide (0 < i) = true by rw [decide_eq_true_eq]; omega] at d0)
      all_goals first | rw [if_pos hi0] at htk hle | rw [if_neg hi0] at htk hle
      all_goals (simp only [itemC] at htk hle)
      all_goals first | rw [if_pos hx1] at htk hle | rw [if_neg hx1] at htk hle
      all_goals (try simp only [List.length_nil, List.nil_append, List.length_cons, List.length_append] at htk hle)
      all_goals (simp only [e1, d0, dx', hw_len, hw_set, hw_app, hw_get, hw_ne, hw_setk, getC, getC2, hid, hL1 hid, hL2 hid, hL3 hid, hL4 hid, aw20, List.take_succ_cons, List.take_zero, List.drop_zero, List.drop_succ_cons, List.length_map, ↓awD, awP, Nat.reduceLeDiff, Nat.reduceEqDiff, Nat.reduceAdd, Nat.zero_add, Int.cast_ofNat_Int, Int.reduceLT, Int.reduceLE, Int.reduceEq])
      all_goals repeat' (first | ((first | refine Need.mk (by first | (first | omega | (simp only [decide_eq_true_eq, decide_eq_false_iff_not, Bool.and_eq_true, Bool.not_eq_true', Bool.not_eq_false', List.length_map] at *; omega) | (simp; omega)) | (constructor <;> (first | omega | (simp only [decide_eq_true_eq, decide_eq_false_iff_not, Bool.and_eq_true, Bool.not_eq_true', Bool.not_eq_false', List.length_map] at *; omega) | (simp; omega)))) (Elem.recs hga (by first | (rw [conv_eq]; exact ⟨rfl, rfl⟩) | exact ⟨rfl, rfl⟩) ?_) | refine Elem.recs hga (by first | (rw [conv_eq]; exact ⟨rfl, rfl⟩) | exact ⟨rfl, rfl⟩) ?_); simp only [conv_eq, d0, dx', w3, hw_len, hw_set, hw_app, hw_get, hw_ne, hw_setk, getC, getC2, hid, hL1 hid, hL2 hid, hL3 hid, hL4 hid, aw21, aw20, List.take_succ_cons, List.take_zero, List.drop_zero, List.drop_succ_cons, List.length_map, ↓awD, awP, Nat.reduceLeDiff, Nat.reduceEqDiff, Nat.reduceAdd, Nat.zero_add, Int.cast_ofNat_Int, Int.reduceLT, Int.reduceLE, Int.reduceEq]) | (refine Need.mk (by simp only [litParts, List.mem_cons, List.not_mem_nil, or_false, forall_eq_or_imp, forall_eq]; refine ⟨by decide, by decide, by decide, ?_⟩; repeat' (first | exact ⟨rfl, rfl, rfl⟩ | rfl | constructor)) ?_; simp only [aw21, hw_len, hw_set, hw_app, hw_get, hw_ne, hw_setk, getC, getC2, hid, hL1 hid, hL2 hid, hL3 hid, hL4 hid, aw20, List.take_succ_cons, List.take_zero, List.drop_zero, List.drop_succ_cons, List.length_map, ↓awD, awP, Nat.reduceLeDiff, Nat.reduceEqDiff, Nat.reduceAdd, Nat.zero_add, Int.cast_ofNat_Int, Int.reduceLT, Int.reduceLE, Int.reduceEq]) | (refine EvF.use (put_ev (by first | exact hid | (simp only [List.length_append]; omega)) [⟨(sepC c.op).toArray⟩] (by simp) (by first | omega | (simp only [tx_cons, tx_nil, List.length_append, List.length_cons, List.length_nil] at *; omega))) ?_; rintro r h' ⟨rfl, rfl⟩; simp only [dx', tx_cons, tx_nil, List.append_nil, hw_len, hw_set, hw_app, hw_get, hw_ne, hw_setk, getC, getC2, hid, hL1 hid, hL2 hid, hL3 hid, hL4 hid, aw20, List.take_succ_cons, List.take_zero, List.drop_zero, List.drop_succ_cons, List.length_map, ↓awD, awP, Nat.reduceLeDiff, Nat.reduceEqDiff, Nat.reduceAdd, Nat.zero_add, Int.cast_ofNat_Int, Int.reduceLT, Int.reduceLE, Int.reduceEq]) | (refine EvF.use (put_ev (by first | exact hid | (simp only [List.length_append]; omega)) [⟨#[40]⟩] (by simp) (by first | omega | (simp only [tx_cons, tx_nil, List.length_append, List.length_cons, List.length_nil] at *; omega))) ?_; rintro r h' ⟨rfl, rfl⟩; simp only [dx', tx_cons, tx_nil, List.append_nil, hw_len, hw_set, hw_app, hw_get, hw_ne, hw_setk, getC, getC2, hid, hL1 hid, hL2 hid, hL3 hid, hL4 hid, aw20, List.take_succ_cons, List.take_zero, List.drop_zero, List.drop_succ_cons, List.length_map, ↓awD, awP, Nat.reduceLeDiff, Nat.reduceEqDiff, Nat.reduceAdd, Nat.zero_add, Int.cast_ofNat_Int, Int.reduceLT, Int.reduceLE, Int.reduceEq]) | (refine EvF.use (put_ev (by first | exact hid | (simp only [List.length_append]; omega)) [⟨#[41]⟩] (by simp) (by first | omega | (simp only [tx_cons, tx_nil, List.length_append, List.length_cons, List.length_nil] at *; omega))) ?_; rintro r h' ⟨rfl, rfl⟩; simp only [w3, tx_cons, tx_nil, List.append_nil, hw_len, hw_set, hw_app, hw_get, hw_ne, hw_setk, getC, getC2, hid, hL1 hid, hL2 hid, hL3 hid, hL4 hid, aw20, List.take_succ_cons, List.take_zero, List.drop_zero, List.drop_succ_cons, List.length_map, ↓awD, awP, Nat.reduceLeDiff, Nat.reduceEqDiff, Nat.reduceAdd, Nat.zero_add, Int.cast_ofNat_Int, Int.reduceLT, Int.reduceLE, Int.reduceEq]) | (refine EvF.use (hcx _ _ (hL3 hid _ _ _) (by first | omega | (simp only [tx_cons, tx_nil, List.length_append, List.length_cons, List.length_nil] at *; omega))) ?_; rintro r h' ⟨rfl, rfl⟩; simp only [w3, hw_len, hw_set, hw_app, hw_get, hw_ne, hw_setk, getC, getC2, hid, hL1 hid, hL2 hid, hL3 hid, hL4 hid, aw20, List.take_succ_cons, List.take_zero, List.drop_zero, List.drop_succ_cons, List.length_map, ↓awD, awP, Nat.reduceLeDiff, Nat.reduceEqDiff, Nat.reduceAdd, Nat.zero_add, Int.cast_ofNat_Int, Int.reduceLT, Int.reduceLE, Int.reduceEq]))
      all_goals exact ⟨(i + 1, J ++ [AObj.cells [i64 x.op, i64 x.lo, i64 x.hi, boolv x.low, boolv x.high, conl x.l]]), hi, by simp only; omega, weak_of (by rw [htk]; simp only [List.append_assoc, List.nil_append, List.cons_append]) (by simp [look])⟩
theorem conText_ev (c : Con) (hm : mxC c ≤ 2 ^ 48) (hlen : (conT c).length + 100 ≤ 140737488355328) (h : List AObj) :
    EvR E0 15 [conv c] h (str ⟨(if c.op = 0 ∨ okc c = false then [] else conT c).toArray⟩) := by
  refine ev_of (fn := Tryd.f15) (hs := [(3, 0), (3, 1)]) Tryd.func15 c15 (by simp) fun hcl => ?_
  have hcon := fun h => shCon_ev c h hm
  simp only [conv_eq] at hcon
  generalize hC : AObj.cells [AV.lit (Value.int IntKind.i64 c.op), AV.lit (Value.int IntKind.i64 c.lo), AV.lit (Value.int IntKind.i64 c.hi), AV.lit (Value.bool c.low), AV.lit (Value.bool c.high), conl c.l] = C
  have hmo : ∀ K t', mObj (some C) K t' = K [AV.lit (Value.int IntKind.i64 c.op), AV.lit (Value.int IntKind.i64 c.lo), AV.lit (Value.int IntKind.i64 c.hi), AV.lit (Value.bool c.low), AV.lit (Value.bool c.high), conl c.l] := fun K t' => by rw [← hC]; rfl
  have hw1 := wcon_ev _ c (Nat.le_refl _) hm (h := h ++ [C] ++ [wrS []]) (id := (h ++ [C]).length) (out := []) (by simp) (by simp only [List.length_nil]; omega)
  simp only [hw_new, List.nil_append, conv_eq] at hw1
  have hst := string_ev (h := h ++ [C] ++ [wrS (conT c)]) (id := (h ++ [C]).length) (e := 54) (l := conT c) (rest := []) (last_obj _ _)
  simp only [ac15, conv_eq, hC, hmo, aw20, List.take_succ_cons, List.take_zero, List.drop_zero, List.drop_succ_cons, List.length_map, ↓awD, awP, Nat.reduceLeDiff, Nat.reduceEqDiff, Nat.reduceAdd, Nat.zero_add, Int.cast_ofNat_Int, Int.reduceLT, Int.reduceLE, Int.reduceEq]
  repeat' (first | ((first | refine EvF.ret (hcon _) ?_ | refine EvRF.ret (hcon _) ?_); simp only [hmo, aw21, aw20, List.take_succ_cons, List.take_zero, List.drop_zero, List.drop_succ_cons, List.length_map, ↓awD, awP, Nat.reduceLeDiff, Nat.reduceEqDiff, Nat.reduceAdd, Nat.zero_add, Int.cast_ofNat_Int, Int.reduceLT, Int.reduceLE, Int.reduceEq]) | (refine BrF.mk (fun hb => ?_) (fun hb => ?_) <;> (try rw [hb]) <;> simp only [hmo, aw21, aw20, List.take_succ_cons, List.take_zero, List.drop_zero, List.drop_succ_cons, List.length_map, ↓awD, awP, Nat.reduceLeDiff, Nat.reduceEqDiff, Nat.reduceAdd, Nat.zero_add, Int.cast_ofNat_Int, Int.reduceLT, Int.reduceLE, Int.reduceEq]) | (refine EvF.use hw1 ?_; rintro r h' ⟨rfl, rfl⟩; simp only [hmo, aw20, List.take_succ_cons, List.take_zero, List.drop_zero, List.drop_succ_cons, List.length_map, ↓awD, awP, Nat.reduceLeDiff, Nat.reduceEqDiff, Nat.reduceAdd, Nat.zero_add, Int.cast_ofNat_Int, Int.reduceLT, Int.reduceLE, Int.reduceEq]) | (refine EvF.use hst ?_; rintro r h' ⟨rfl, rfl⟩; simp only [hmo, aw20, List.take_succ_cons, List.take_zero, List.drop_zero, List.drop_succ_cons, List.length_map, ↓awD, awP, Nat.reduceLeDiff, Nat.reduceEqDiff, Nat.reduceAdd, Nat.zero_add, Int.cast_ofNat_Int, Int.reduceLT, Int.reduceLE, Int.reduceEq]))
  all_goals (refine Fin.end hcl rfl (by first | rfl | exact (List.append_nil _).symm | (simp only [List.append_assoc]; rfl)) ⟨?_, rfl⟩; first | rfl | ((try simp only [dnat, decide_eq_true_eq, decide_eq_false_iff_not, List.length_eq_zero_iff, List.length_pos_iff] at *); first | (simp [*, aw21]; done) | (simp [*, aw21]; omega) | (clear hcl; simp [*, aw21] <;> grind) | (simp [*, aw21])))
end Go.Abs.Fr

namespace Go.Abs.Fr
open Go Go.Abs Go.Proofs
set_option linter.unusedSimpArgs false
set_option maxRecDepth 100000

mutual
def fewC : Con → Int → Int
  | .mk _ _ _ _ _ l _, n => fewCs l (n - 1)
def fewCs : List Con → Int → Int
  | [], n => n
  | c :: l, n => if 0 ≤ n then fewCs l (fewC c n) else n
end
mutual
def fewV : Val → Int → Int
  | .mk _ _ _ ns l _, n => fewVs l (n - 1 - ns.length)
def fewVs : List Val → Int → Int
  | [], n => n
  | c :: l, n => if 0 ≤ n then fewVs l (fewV c n) else n
end
mutual
def fewT : Ty → Int → Int
  | .mk _ _ c _ _ ns ms ps ad el _, n => fewTs el (fewPs ad (fewPs ps (fewC c (n - 1 - ns.length - ms.length))))
def fewP : Prt → Int → Int
  | .mk _ t _ d, n => fewT t (fewVs d (n - 1))
def fewPs : List Prt → Int → Int
  | [], n => n
  | c :: l, n => if 0 ≤ n then fewPs l (fewP c n) else n
def fewTs : List Ty → Int → Int
  | [], n => n
  | c :: l, n => if 0 ≤ n then fewTs l (fewT c n) else n
end
theorem fewC_eq (c : Con) (n : Int) : fewC c n = fewCs c.l (n - 1) := by cases c; simp only [fewC]; rfl
theorem fewV_eq (v : Val) (n : Int) : fewV v n = fewVs v.l (n - 1 - v.names.length) := by cases v; simp only [fewV]; rfl
theorem fewT_eq (t : Ty) (n : Int) : fewT t n = fewTs t.elem (fewPs t.adds (fewPs t.parts (fewC t.con (n - 1 - t.names.length - t.more.length)))) := by cases t; simp only [fewT]; rfl
theorem fewP_eq (p : Prt) (n : Int) : fewP p n = fewT p.t (fewVs p.dfl (n - 1)) := by cases p; simp only [fewP]; rfl
theorem fewCs_neg {l : List Con} {n : Int} (h : ¬ 0 ≤ n) : fewCs l n = n := by cases l <;> simp [fewCs, h]
theorem fewVs_neg {l : List Val} {n : Int} (h : ¬ 0 ≤ n) : fewVs l n = n := by cases l <;> simp [fewVs, h]
theorem fewPs_neg {l : List Prt} {n : Int} (h : ¬ 0 ≤ n) : fewPs l n = n := by cases l <;> simp [fewPs, h]
theorem fewTs_neg {l : List Ty} {n : Int} (h : ¬ 0 ≤ n) : fewTs l n = n := by cases l <;> simp [fewTs, h]

/-! ### Bounds; sizes -/
mutual
theorem fewC_b : ∀ (c : Con) (n : Int), -(2 : Int) ^ 51 ≤ n → -(2 : Int) ^ 51 - 1 ≤ fewC c n ∧ fewC c n ≤ n ∧ (0 ≤ fewC c n → (szC c : Int) ≤ n - fewC c n)
  | .mk a b c d e l ok, n, h => by
    have h1 := fewCs_b l (n - 1) (by omega)
    simp only [fewC, szC]
    refine ⟨by omega, by omega, fun h0 => ?_⟩
    have := h1.2.2 h0
    omega
theorem fewCs_b : ∀ (l : List Con) (n : Int), -(2 : Int) ^ 51 - 1 ≤ n → -(2 : Int) ^ 51 - 1 ≤ fewCs l n ∧ fewCs l n ≤ n ∧ (0 ≤ fewCs l n → (szCs l : Int) ≤ n - fewCs l n)
  | [], n, h => by simp only [fewCs, szCs]; omega
  | c :: l, n, h => by
    by_cases h0 : 0 ≤ n
    · have h1 := fewC_b c n (by omega)
      have h2 := fewCs_b l (fewC c n) (by omega)
      simp only [fewCs, if_pos h0, szCs]
      refine ⟨h2.1, by omega, fun h3 => ?_⟩
      have h4 := h2.2.2 h3
      have h5 := h1.2.2 (by omega)
      omega
    · simp only [fewCs, if_neg h0]
      exact ⟨h, Int.le_refl _, fun h3 => absurd h3 h0⟩
end
mutual
theorem fewV_b : ∀ (c : Val) (n : Int), mxV c ≤ 2 ^ 48 → 0 ≤ n → -(2 : Int) ^ 49 ≤ fewV c n ∧ fewV c n ≤ n ∧ (0 ≤ fewV c n → (szV c : Int) ≤ n - fewV c n)
  | .mk a b s ns l ok, n, hm, h => by
    simp only [mxV] at hm
    have hl := mxB_len ns
    have h1 := fewVs_b l (n - 1 - ns.length) (by omega) (by omega)
    simp only [fewV, szV]
    refine ⟨by omega, by omega, fun h0 => ?_⟩
    have := h1.2.2 h0
    omega
theorem fewVs_b : ∀ (l : List Val) (n : Int), mxVs l ≤ 2 ^ 48 → -(2 : Int) ^ 49 ≤ n → -(2 : Int) ^ 49 ≤ fewVs l n ∧ fewVs l n ≤ n ∧ (0 ≤ fewVs l n → (szVs l : Int) ≤ n - fewVs l n)
  | [], n, _, h => by simp only [fewVs, szVs]; omega
  | c :: l, n, hm, h => by
    simp only [mxVs] at hm
    by_cases h0 : 0 ≤ n
    · have h1 := fewV_b c n (by omega) h0
      have h2 := fewVs_b l (fewV c n) (by omega) (by omega)
      simp only [fewVs, if_pos h0, szVs]
      refine ⟨h2.1, by omega, fun h3 => ?_⟩
      have h4 := h2.2.2 h3
      have h5 := h1.2.2 (by omega)
      omega
    · simp only [fewVs, if_neg h0]
      exact ⟨h, Int.le_refl _, fun h3 => absurd h3 h0⟩
end
mutual
theorem fewT_b : ∀ (t : Ty) (n : Int), mxT t ≤ 2 ^ 48 → -(2 : Int) ^ 49 ≤ n → -(2 : Int) ^ 52 ≤ fewT t n ∧ fewT t n ≤ n ∧ (0 ≤ fewT t n → (szT t : Int) ≤ n - fewT t n)
  | .mk k nm c e f ns ms ps ad el ok, n, hm, h => by
    simp only [mxT] at hm
    have hl1 := mxB_len ns
    have hl2 := mxB_len ms
    have h1 := fewC_b c (n - 1 - ns.length - ms.length) (by omega)
    have h2 := fewPs_b ps (fewC c (n - 1 - ns.length - ms.length)) (by omega) (by omega)
    have h3 := fewPs_b ad (fewPs ps (fewC c (n - 1 - ns.length - ms.length))) (by omega) (by omega)
    have h4 := fewTs_b el (fewPs ad (fewPs ps (fewC c (n - 1 - ns.length - ms.length)))) (by omega) (by omega)
    simp only [fewT, szT]
    refine ⟨by omega, by omega, fun h0 => ?_⟩
    have := h4.2.2 h0
    have := h3.2.2 (by omega)
    have := h2.2.2 (by omega)
    omega
theorem fewP_b : ∀ (p : Prt) (n : Int), mxP p ≤ 2 ^ 48 → 0 ≤ n → -(2 : Int) ^ 52 ≤ fewP p n ∧ fewP p n ≤ n ∧ (0 ≤ fewP p n → (szP p : Int) ≤ n - fewP p n)
  | .mk nm t o d, n, hm, h => by
    simp only [mxP] at hm
    have h1 := fewVs_b d (n - 1) (by omega) (by omega)
    have h2 := fewT_b t (fewVs d (n - 1)) (by omega) (by omega)
    simp only [fewP, szP]
    refine ⟨by omega, by omega, fun h0 => ?_⟩
    have := h2.2.2 h0
    omega
theorem fewPs_b : ∀ (l : List Prt) (n : Int), mxPs l ≤ 2 ^ 48 → -(2 : Int) ^ 52 ≤ n → -(2 : Int) ^ 52 ≤ fewPs l n ∧ fewPs l n ≤ n ∧ (0 ≤ fewPs l n → (szPs l : Int) ≤ n - fewPs l n)
  | [], n, _, h => by simp only [fewPs, szPs]; omega
  | c :: l, n, hm, h => by
    simp only [mxPs] at hm
    by_cases h0 : 0 ≤ n
    · have h1 := fewP_b c n (by omega) h0
      have h2 := fewPs_b l (fewP c n) (by omega) (by omega)
      simp only [fewPs, if_pos h0, szPs]
      refine ⟨h2.1, by omega, fun h3 => ?_⟩
      have h4 := h2.2.2 h3
      have h5 := h1.2.2 (by omega)
      omega
    · simp only [fewPs, if_neg h0]
      exact ⟨h, Int.le_refl _, fun h3 => absurd h3 h0⟩
theorem fewTs_b : ∀ (l : List Ty) (n : Int), mxTs l ≤ 2 ^ 48 → -(2 : Int) ^ 52 ≤ n → -(2 : Int) ^ 52 ≤ fewTs l n ∧ fewTs l n ≤ n ∧ (0 ≤ fewTs l n → (szTs l : Int) ≤ n - fewTs l n)
  | [], n, _, h => by simp only [fewTs, szTs]; omega
  | c :: l, n, hm, h => by
    simp only [mxTs] at hm
    by_cases h0 : 0 ≤ n
    · have h1 := fewT_b c n (by omega) (by omega)
      have h2 := fewTs_b l (fewT c n) (by omega) (by omega)
      simp only [fewTs, if_pos h0, szTs]
      refine ⟨h2.1, by omega, fun h3 => ?_⟩
      have h4 := h2.2.2 h3
      have h5 := h1.2.2 (by omega)
      omega
    · simp only [fewTs, if_neg h0]
      exact ⟨h, Int.le_refl _, fun h3 => absurd h3 h0⟩
end
end Go.Abs.Fr

namespace Go.Abs.Fr
open Go Go.Abs Go.Proofs
set_option linter.unusedSimpArgs false
set_option maxRecDepth 100000

/-- spandrel/spandrelref08.Few -/
def ac7 : ACode := (.seq (.region [⟨(some 2), (.box (.tmp 0)), none⟩, ⟨(some 4), (.move (.const (.bool false))), none⟩]) (.seq (.region [⟨(some 5), (.load (some 15) (.tmp 2)), none⟩, ⟨(some 6), (.move (.tmp 1)), none⟩, ⟨(some 7), (.call (.func 18) [((.tmp 5), false), ((.tmp 6), false)]), none⟩, ⟨(some 8), (.bin .geq (.tmp 7) (.const (.int .i64 0))), none⟩, ⟨(some 4), (.move (.tmp 8)), none⟩]) .ret))
theorem c7 : cfn E0.P [] Tryd.f7 = some (ac7, [(.tmp 4)], 9) := by kernel_rfl
/-- spandrel/spandrelref08.FewValues -/
def ac10 : ACode := (.seq (.region [⟨(some 4), (.move (.const (.bool false))), none⟩]) (.seq (.region [⟨(some 5), (.move (.tmp 0)), none⟩, ⟨(some 6), (.move (.tmp 1)), none⟩, ⟨(some 7), (.call (.func 21) [((.tmp 5), false), ((.tmp 6), false)]), none⟩, ⟨(some 8), (.bin .geq (.tmp 7) (.const (.int .i64 0))), none⟩, ⟨(some 4), (.move (.tmp 8)), none⟩]) .ret))
theorem c10 : cfn E0.P [] Tryd.f10 = some (ac10, [(.tmp 4)], 9) := by kernel_rfl
/-- spandrel/spandrelref08.FewCon -/
def ac12 : ACode := (.seq (.region [⟨(some 2), (.box (.tmp 0)), none⟩, ⟨(some 4), (.move (.const (.bool false))), none⟩]) (.seq (.region [⟨(some 5), (.load (some 6) (.tmp 2)), none⟩, ⟨(some 6), (.move (.tmp 1)), none⟩, ⟨(some 7), (.call (.func 24) [((.tmp 5), false), ((.tmp 6), false)]), none⟩, ⟨(some 8), (.bin .geq (.tmp 7) (.const (.int .i64 0))), none⟩, ⟨(some 4), (.move (.tmp 8)), none⟩]) .ret))
theorem c12 : cfn E0.P [] Tryd.f12 = some (ac12, [(.tmp 4)], 9) := by kernel_rfl
/-- spandrel/spandrelref08.few -/
def ac18 : ACode := (.seq (.region [⟨(some 2), (.box (.tmp 0)), none⟩, ⟨(some 4), (.move (.const (.int .i64 0))), none⟩]) (.seq (.region [⟨(some 8), (.fieldAddr 2 (.tmp 2)), none⟩, ⟨(some 9), (.load (some 6) (.tmp 8)), none⟩, ⟨(some 10), (.move (.tmp 1)), none⟩, ⟨(some 11), (.bin .sub (.tmp 10) (.const (.int .i64 1))), none⟩, ⟨(some 12), (.fieldAddr 10 (.tmp 2)), none⟩, ⟨(some 13), (.load none (.tmp 12)), none⟩, ⟨(some 14), (.len false (.tmp 13)), none⟩, ⟨(some 15), (.bin .sub (.tmp 11) (.tmp 14)), none⟩, ⟨(some 16), (.fieldAddr 11 (.tmp 2)), none⟩, ⟨(some 17), (.load none (.tmp 16)), none⟩, ⟨(some 18), (.len false (.tmp 17)), none⟩, ⟨(some 19), (.bin .sub (.tmp 15) (.tmp 18)), none⟩, ⟨(some 20), (.call (.func 24) [((.tmp 9), false), ((.tmp 19), false)]), none⟩, ⟨(some 1), (.move (.tmp 20)), none⟩]) (.seq (.seq (.region [⟨(some 5), (.move (.const (.int .i64 0))), none⟩]) (.block 0 (.loop (.seq (.seq (.region [⟨(some 21), (.move (.tmp 5)), none⟩, ⟨(some 22), (.fieldAddr 12 (.tmp 2)), none⟩, ⟨(some 23), (.load none (.tmp 22)), none⟩, ⟨(some 24), (.len false (.tmp 23)), none⟩, ⟨(some 25), (.bin .lss (.tmp 21) (.tmp 24)), none⟩, ⟨(some 26), (.move (.tmp 25)), none⟩, ⟨(some 27), (.move (.tmp 1)), (some (26, true))⟩, ⟨(some 28), (.bin .geq (.tmp 27) (.const (.int .i64 0))), (some (26, true))⟩, ⟨(some 29), (.pick (.tmp 26) (.tmp 28) (.const (.bool false))), none⟩]) (.cond (.tmp 29) .skip (.exit 0))) (.seq (.block 1 (.draw [⟨(some 32), (.fieldAddr 12 (.tmp 2)), none⟩, ⟨(some 33), (.load none (.tmp 32)), none⟩, ⟨(some 34), (.move (.tmp 5)), none⟩, ⟨(some 35), (.indexAddr 18 (.tmp 33) (.tmp 34)), none⟩, ⟨(some 36), (.fieldAddr 1 (.tmp 35)), none⟩, ⟨(some 37), (.load (some 15) (.tmp 36)), none⟩, ⟨(some 38), (.fieldAddr 12 (.tmp 2)), none⟩, ⟨(some 39), (.load none (.tmp 38)), none⟩, ⟨(some 40), (.move (.tmp 5)), none⟩, ⟨(some 41), (.indexAddr 18 (.tmp 39) (.tmp 40)), none⟩, ⟨(some 42), (.fieldAddr 17 (.tmp 41)), none⟩, ⟨(some 43), (.load none (.tmp 42)), none⟩, ⟨(some 44), (.move (.tmp 1)), none⟩, ⟨(some 45), (.bin .sub (.tmp 44) (.const (.int .i64 1))), none⟩, ⟨(some 46), (.call (.func 21) [((.tmp 43), false), ((.tmp 45), false)]), none⟩, ⟨(some 47), (.call (.func 18) [((.tmp 37), false), ((.tmp 46), false)]), none⟩, ⟨(some 1), (.move (.tmp 47)), none⟩])) (.region [⟨(some 30), (.move (.tmp 5)), none⟩, ⟨(some 31), (.bin .add (.tmp 30) (.const (.int .i64 1))), none⟩, ⟨(some 5), (.move (.tmp 31)), none⟩])))))) (.seq (.seq (.region [⟨(some 6), (.move (.const (.int .i64 0))), none⟩]) (.block 2 (.loop (.seq (.seq (.region [⟨(some 48), (.move (.tmp 6)), none⟩, ⟨(some 49), (.fieldAddr 13 (.tmp 2)), none⟩, ⟨(some 50), (.load none (.tmp 49)), none⟩, ⟨(some 51), (.len false (.tmp 50)), none⟩, ⟨(some 52), (.bin .lss (.tmp 48) (.tmp 51)), none⟩, ⟨(some 53), (.move (.tmp 52)), none⟩, ⟨(some 54), (.move (.tmp 1)), (some (53, true))⟩, ⟨(some 55), (.bin .geq (.tmp 54) (.const (.int .i64 0))), (some (53, true))⟩, ⟨(some 56), (.pick (.tmp 53) (.tmp 55) (.const (.bool false))), none⟩]) (.cond (.tmp 56) .skip (.exit 2))) (.seq (.block 3 (.draw [⟨(some 59), (.fieldAddr 13 (.tmp 2)), none⟩, ⟨(some 60), (.load none (.tmp 59)), none⟩, ⟨(some 61), (.move (.tmp 6)), none⟩, ⟨(some 62), (.indexAddr 18 (.tmp 60) (.tmp 61)), none⟩, ⟨(some 63), (.fieldAddr 1 (.tmp 62)), none⟩, ⟨(some 64), (.load (some 15) (.tmp 63)), none⟩, ⟨(some 65), (.fieldAddr 13 (.tmp 2)), none⟩, ⟨(some 66), (.load none (.tmp 65)), none⟩, ⟨(some 67), (.move (.tmp 6)), none⟩, ⟨(some 68), (.indexAddr 18 (.tmp 66) (.tmp 67)), none⟩, ⟨(some 69), (.fieldAddr 17 (.tmp 68)), none⟩, ⟨(some 70), (.load none (.tmp 69)), none⟩, ⟨(some 71), (.move (.tmp 1)), none⟩, ⟨(some 72), (.bin .sub (.tmp 71) (.const (.int .i64 1))), none⟩, ⟨(some 73), (.call (.func 21) [((.tmp 70), false), ((.tmp 72), false)]), none⟩, ⟨(some 74), (.call (.func 18) [((.tmp 64), false), ((.tmp 73), false)]), none⟩, ⟨(some 1), (.move (.tmp 74)), none⟩])) (.region [⟨(some 57), (.move (.tmp 6)), none⟩, ⟨(some 58), (.bin .add (.tmp 57) (.const (.int .i64 1))), none⟩, ⟨(some 6), (.move (.tmp 58)), none⟩])))))) (.seq (.seq (.region [⟨(some 7), (.move (.const (.int .i64 0))), none⟩]) (.block 4 (.loop (.seq (.seq (.region [⟨(some 75), (.move (.tmp 7)), none⟩, ⟨(some 76), (.fieldAddr 14 (.tmp 2)), none⟩, ⟨(some 77), (.load none (.tmp 76)), none⟩, ⟨(some 78), (.len false (.tmp 77)), none⟩, ⟨(some 79), (.bin .lss (.tmp 75) (.tmp 78)), none⟩, ⟨(some 80), (.move (.tmp 79)), none⟩, ⟨(some 81), (.move (.tmp 1)), (some (80, true))⟩, ⟨(some 82), (.bin .geq (.tmp 81) (.const (.int .i64 0))), (some (80, true))⟩, ⟨(some 83), (.pick (.tmp 80) (.tmp 82) (.const (.bool false))), none⟩]) (.cond (.tmp 83) .skip (.exit 4))) (.seq (.block 5 (.region [⟨(some 86), (.fieldAddr 14 (.tmp 2)), none⟩, ⟨(some 87), (.load none (.tmp 86)), none⟩, ⟨(some 88), (.move (.tmp 7)), none⟩, ⟨(some 89), (.indexAddr 15 (.tmp 87) (.tmp 88)), none⟩, ⟨(some 90), (.load (some 15) (.tmp 89)), none⟩, ⟨(some 91), (.move (.tmp 1)), none⟩, ⟨(some 92), (.call (.func 18) [((.tmp 90), false), ((.tmp 91), false)]), none⟩, ⟨(some 1), (.move (.tmp 92)), none⟩])) (.region [⟨(some 84), (.move (.tmp 7)), none⟩, ⟨(some 85), (.bin .add (.tmp 84) (.const (.int .i64 1))), none⟩, ⟨(some 7), (.move (.tmp 85)), none⟩])))))) (.seq (.region [⟨(some 93), (.move (.tmp 1)), none⟩, ⟨(some 4), (.move (.tmp 93)), none⟩]) .ret))))))
theorem c18 : cfn E0.P [] Tryd.f18 = some (ac18, [(.tmp 4)], 94) := by kernel_rfl
/-- spandrel/spandrelref08.fewDefs -/
def ac21 : ACode := (.seq (.region [⟨(some 4), (.move (.const (.int .i64 0))), none⟩]) (.seq (.seq (.region [⟨(some 5), (.move (.const (.int .i64 0))), none⟩]) (.block 0 (.loop (.seq (.seq (.region [⟨(some 6), (.move (.tmp 5)), none⟩, ⟨(some 7), (.move (.tmp 0)), none⟩, ⟨(some 8), (.len false (.tmp 7)), none⟩, ⟨(some 9), (.bin .lss (.tmp 6) (.tmp 8)), none⟩, ⟨(some 10), (.move (.tmp 9)), none⟩, ⟨(some 11), (.move (.tmp 1)), (some (10, true))⟩, ⟨(some 12), (.bin .geq (.tmp 11) (.const (.int .i64 0))), (some (10, true))⟩, ⟨(some 13), (.pick (.tmp 10) (.tmp 12) (.const (.bool false))), none⟩]) (.cond (.tmp 13) .skip (.exit 0))) (.seq (.block 1 (.draw [⟨(some 16), (.move (.tmp 0)), none⟩, ⟨(some 17), (.move (.tmp 5)), none⟩, ⟨(some 18), (.indexAddr 5 (.tmp 16) (.tmp 17)), none⟩, ⟨(some 19), (.fieldAddr 4 (.tmp 18)), none⟩, ⟨(some 20), (.load none (.tmp 19)), none⟩, ⟨(some 21), (.move (.tmp 1)), none⟩, ⟨(some 22), (.bin .sub (.tmp 21) (.const (.int .i64 1))), none⟩, ⟨(some 23), (.move (.tmp 0)), none⟩, ⟨(some 24), (.move (.tmp 5)), none⟩, ⟨(some 25), (.indexAddr 5 (.tmp 23) (.tmp 24)), none⟩, ⟨(some 26), (.fieldAddr 3 (.tmp 25)), none⟩, ⟨(some 27), (.load none (.tmp 26)), none⟩, ⟨(some 28), (.len false (.tmp 27)), none⟩, ⟨(some 29), (.bin .sub (.tmp 22) (.tmp 28)), none⟩, ⟨(some 30), (.call (.func 21) [((.tmp 20), false), ((.tmp 29), false)]), none⟩, ⟨(some 1), (.move (.tmp 30)), none⟩])) (.region [⟨(some 14), (.move (.tmp 5)), none⟩, ⟨(some 15), (.bin .add (.tmp 14) (.const (.int .i64 1))), none⟩, ⟨(some 5), (.move (.tmp 15)), none⟩])))))) (.seq (.region [⟨(some 31), (.move (.tmp 1)), none⟩, ⟨(some 4), (.move (.tmp 31)), none⟩]) .ret)))
theorem c21 : cfn E0.P [] Tryd.f21 = some (ac21, [(.tmp 4)], 32) := by kernel_rfl
/-- spandrel/spandrelref08.fewCon -/
def ac24 : ACode := (.seq (.region [⟨(some 2), (.box (.tmp 0)), none⟩, ⟨(some 4), (.move (.const (.int .i64 0))), none⟩]) (.seq (.region [⟨(some 6), (.move (.tmp 1)), none⟩, ⟨(some 7), (.bin .sub (.tmp 6) (.const (.int .i64 1))), none⟩, ⟨(some 1), (.move (.tmp 7)), none⟩]) (.seq (.seq (.region [⟨(some 5), (.move (.const (.int .i64 0))), none⟩]) (.block 0 (.loop (.seq (.seq (.region [⟨(some 8), (.move (.tmp 5)), none⟩, ⟨(some 9), (.fieldAddr 5 (.tmp 2)), none⟩, ⟨(some 10), (.load none (.tmp 9)), none⟩, ⟨(some 11), (.len false (.tmp 10)), none⟩, ⟨(some 12), (.bin .lss (.tmp 8) (.tmp 11)), none⟩, ⟨(some 13), (.move (.tmp 12)), none⟩, ⟨(some 14), (.move (.tmp 1)), (some (13, true))⟩, ⟨(some 15), (.bin .geq (.tmp 14) (.const (.int .i64 0))), (some (13, true))⟩, ⟨(some 16), (.pick (.tmp 13) (.tmp 15) (.const (.bool false))), none⟩]) (.cond (.tmp 16) .skip (.exit 0))) (.seq (.block 1 (.region [⟨(some 19), (.fieldAddr 5 (.tmp 2)), none⟩, ⟨(some 20), (.load none (.tmp 19)), none⟩, ⟨(some 21), (.move (.tmp 5)), none⟩, ⟨(some 22), (.indexAddr 6 (.tmp 20) (.tmp 21)), none⟩, ⟨(some 23), (.load (some 6) (.tmp 22)), none⟩, ⟨(some 24), (.move (.tmp 1)), none⟩, ⟨(some 25), (.call (.func 24) [((.tmp 23), false), ((.tmp 24), false)]), none⟩, ⟨(some 1), (.move (.tmp 25)), none⟩])) (.region [⟨(some 17), (.move (.tmp 5)), none⟩, ⟨(some 18), (.bin .add (.tmp 17) (.const (.int .i64 1))), none⟩, ⟨(some 5), (.move (.tmp 18)), none⟩])))))) (.seq (.region [⟨(some 26), (.move (.tmp 1)), none⟩, ⟨(some 4), (.move (.tmp 26)), none⟩]) .ret))))
theorem c24 : cfn E0.P [] Tryd.f24 = some (ac24, [(.tmp 4)], 27) := by kernel_rfl

theorem rfewCon_ev : ∀ (k : Nat) (c : Con), szC c ≤ k → mxC c ≤ 2 ^ 48 → ∀ (n : Int), -(2 : Int) ^ 51 ≤ n → n ≤ 2 ^ 60 → ∀ h, EvR E0 24 [conv c, i64 n] h (i64 (fewC c n)) := by
  intro k
  induction k using Nat.strongRecOn with
  | _ k ih =>
    intro c hk hm n hn hn2 h
    refine ev_of (fn := Tryd.f24) (hs := []) Tryd.func24 c24 (by simp) fun hcl => ?_
    have hmx := mxC_eq c
    have hsz := szC_eq c
    have hlen := mxCs_len c.l
    have w1 : IntKind.i64.wrap (n - 1) = n - 1 := by rw [wrap_i64] <;> omega
    rw [fewC_eq]
    generalize hR : fewCs c.l (n - 1) = R
    simp only [ac24, conv_eq, w1, aw20, List.take_succ_cons, List.take_zero, List.drop_zero, List.drop_succ_cons, List.length_map, ↓awD, awP, Nat.reduceLeDiff, Nat.reduceEqDiff, Nat.reduceAdd, Nat.zero_add, Int.cast_ofNat_Int, Int.reduceLT, Int.reduceLE, Int.reduceEq]
    refine LoopF.list c.l (by omega) (γ := Int) (fun i g => ⟨[(1, i64 g), (2, .ref h.length 0), (5, i64 i)], h ++ [AObj.cells [i64 c.op, i64 c.lo, i64 c.hi, boolv c.low, boolv c.high, conl c.l]]⟩)
      (fun i g => (-(2 : Int) ^ 51 - 1 ≤ g ∧ g ≤ 2 ^ 60) ∧ fewCs (c.l.drop i) g = R) (n - 1) ⟨⟨by omega, by omega⟩, by simpa using hR⟩ (weak_of (by simp) (by simp [look])) ?_ ?_
    · rintro i a g ha ⟨hg, hv⟩ hi e1 w3
      rw [drop_get ha] at hv
      have hga := map_get conv c.l i a ha
      have hma := mxCs_mem (List.mem_of_getElem? ha)
      have hza := szCs_mem (List.mem_of_getElem? ha)
      simp only [e1, aw20, List.take_succ_cons, List.take_zero, List.drop_zero, List.drop_succ_cons, List.length_map, ↓awD, awP, Nat.reduceLeDiff, Nat.reduceEqDiff, Nat.reduceAdd, Nat.zero_add, Int.cast_ofNat_Int, Int.reduceLT, Int.reduceLE, Int.reduceEq]
      by_cases h0 : 0 ≤ g
      · have hb := fewC_b a g (by omega)
        have hca := fun h => ih (szC a) (by omega) a (Nat.le_refl _) (by omega) g (by omega) (by omega) h
        simp only [conv_eq] at hca
        rw [fewCs, if_pos h0] at hv
        have d0 : decide (0 ≤ g) = true := by rw [decide_eq_true_eq]; exact h0
        simp only [d0, aw20, List.take_succ_cons, List.take_zero, List.drop_zero, List.drop_succ_cons, List.length_map, ↓awD, awP, Nat.reduceLeDiff, Nat.reduceEqDiff, Nat.reduceAdd, Nat.zero_add, Int.cast_ofNat_Int, Int.reduceLT, Int.reduceLE, Int.reduceEq]
        repeat' (first | ((first | refine Need.mk (by first | (first | omega | (simp only [decide_eq_true_eq, decide_eq_false_iff_not, Bool.and_eq_true, Bool.not_eq_true', Bool.not_eq_false', List.length_map] at *; omega) | (simp; omega)) | (constructor <;> (first | omega | (simp only [decide_eq_true_eq, decide_eq_false_iff_not, Bool.and_eq_true, Bool.not_eq_true', Bool.not_eq_false', List.length_map] at *; omega) | (simp; omega)))) (Elem.recs hga (by first | (rw [conv_eq]; exact ⟨rfl, rfl⟩) | exact ⟨rfl, rfl⟩) ?_) | refine Elem.recs hga (by first | (rw [conv_eq]; exact ⟨rfl, rfl⟩) | exact ⟨rfl, rfl⟩) ?_); simp only [conv_eq, aw21, aw21, aw20, List.take_succ_cons, List.take_zero, List.drop_zero, List.drop_succ_cons, List.length_map, ↓awD, awP, Nat.reduceLeDiff, Nat.reduceEqDiff, Nat.reduceAdd, Nat.zero_add, Int.cast_ofNat_Int, Int.reduceLT, Int.reduceLE, Int.reduceEq]) | ((first | refine EvF.ret (hca _) ?_ | refine EvRF.ret (hca _) ?_); simp only [w3, aw21, aw20, List.take_succ_cons, List.take_zero, List.drop_zero, List.drop_succ_cons, List.length_map, ↓awD, awP, Nat.reduceLeDiff, Nat.reduceEqDiff, Nat.reduceAdd, Nat.zero_add, Int.cast_ofNat_Int, Int.reduceLT, Int.reduceLE, Int.reduceEq]))
        exact ⟨(i + 1, fewC a g), ⟨hi, ⟨⟨by omega, by omega⟩, hv⟩⟩, by simp only; omega, weak_of (rfl) (by simp [look])⟩
      · rw [fewCs, if_neg h0] at hv
        subst hv
        have d0 : decide (0 ≤ g) = false := by rw [decide_eq_false_iff_not]; exact h0
        simp only [d0, aw20, List.take_succ_cons, List.take_zero, List.drop_zero, List.drop_succ_cons, List.length_map, ↓awD, awP, Nat.reduceLeDiff, Nat.reduceEqDiff, Nat.reduceAdd, Nat.zero_add, Int.cast_ofNat_Int, Int.reduceLT, Int.reduceLE, Int.reduceEq]
        exact Fin.end hcl rfl (by first | rfl | exact (List.append_nil _).symm | (simp only [List.append_assoc]; rfl)) ⟨rfl, rfl⟩
    · rintro g ⟨_, hv⟩ e1
      rw [drop_len] at hv
      simp only [fewCs] at hv
      subst hv
      simp only [e1, aw20, List.take_succ_cons, List.take_zero, List.drop_zero, List.drop_succ_cons, List.length_map, ↓awD, awP, Nat.reduceLeDiff, Nat.reduceEqDiff, Nat.reduceAdd, Nat.zero_add, Int.cast_ofNat_Int, Int.reduceLT, Int.reduceLE, Int.reduceEq]
      exact Fin.end hcl rfl (by first | rfl | exact (List.append_nil _).symm | (simp only [List.append_assoc]; rfl)) ⟨rfl, rfl⟩

theorem rfewDefs_ev : ∀ (k : Nat) (l : List Val), szVs l ≤ k → mxVs l ≤ 2 ^ 48 → ∀ (n : Int), -(2 : Int) ^ 49 ≤ n → n ≤ 2 ^ 60 → ∀ h, EvR E0 21 [vall l, i64 n] h (i64 (fewVs l n)) := by
  intro k
  induction k using Nat.strongRecOn with
  | _ k ih =>
    intro l hk hm n hn hn2 h
    refine ev_of (fn := Tryd.f21) (hs := []) Tryd.func21 c21 (by simp) fun hcl => ?_
    have hlen := mxVs_len l
    generalize hR : fewVs l n = R
    simp only [ac21, aw20, List.take_succ_cons, List.take_zero, List.drop_zero, List.drop_succ_cons, List.length_map, ↓awD, awP, Nat.reduceLeDiff, Nat.reduceEqDiff, Nat.reduceAdd, Nat.zero_add, Int.cast_ofNat_Int, Int.reduceLT, Int.reduceLE, Int.reduceEq]
    refine LoopF.list l (by omega) (γ := Int) (fun i g => ⟨[(0, vall l), (1, i64 g), (5, i64 i)], h⟩)
      (fun i g => (-(2 : Int) ^ 49 ≤ g ∧ g ≤ 2 ^ 60) ∧ fewVs (l.drop i) g = R) n ⟨⟨by omega, by omega⟩, by simpa using hR⟩ (weak_of (by simp) (by simp [look])) ?_ ?_
    · rintro i a g ha ⟨hg, hv⟩ hi e1 w3
      rw [drop_get ha] at hv
      have hga := map_get valv l i a ha
      have hma := mxVs_mem (List.mem_of_getElem? ha)
      have hza := szVs_mem (List.mem_of_getElem? ha)
      have hmx := mxV_le a
      have hzx := szV_eq a
      have hln := mxB_len a.names
      simp only [e1, aw20, List.take_succ_cons, List.take_zero, List.drop_zero, List.drop_succ_cons, List.length_map, ↓awD, awP, Nat.reduceLeDiff, Nat.reduceEqDiff, Nat.reduceAdd, Nat.zero_add, Int.cast_ofNat_Int, Int.reduceLT, Int.reduceLE, Int.reduceEq]
      by_cases h0 : 0 ≤ g
      · have hb := fewV_b a g (by omega) h0
        have hca := fun h => ih (szVs a.l) (by omega) a.l (Nat.le_refl _) (by omega) (g - 1 - a.names.length) (by omega) (by omega) h
        have w1 : IntKind.i64.wrap (g - 1) = g - 1 := by rw [wrap_i64] <;> omega
        have w2 : IntKind.i64.wrap (g - 1 - a.names.length) = g - 1 - a.names.length := by rw [wrap_i64] <;> omega
        rw [fewVs, if_pos h0] at hv
        rw [fewV_eq] at hv hb
        have d0 : decide (0 ≤ g) = true := by rw [decide_eq_true_eq]; exact h0
        simp only [d0, aw20, List.take_succ_cons, List.take_zero, List.drop_zero, List.drop_succ_cons, List.length_map, ↓awD, awP, Nat.reduceLeDiff, Nat.reduceEqDiff, Nat.reduceAdd, Nat.zero_add, Int.cast_ofNat_Int, Int.reduceLT, Int.reduceLE, Int.reduceEq]
        repeat' (first | ((first | refine Need.mk (by first | (first | omega | (simp only [decide_eq_true_eq, decide_eq_false_iff_not, Bool.and_eq_true, Bool.not_eq_true', Bool.not_eq_false', List.length_map] at *; omega) | (simp; omega)) | (constructor <;> (first | omega | (simp only [decide_eq_true_eq, decide_eq_false_iff_not, Bool.and_eq_true, Bool.not_eq_true', Bool.not_eq_false', List.length_map] at *; omega) | (simp; omega)))) (Elem.recs hga (by first | (rw [valv_eq]; exact ⟨rfl, rfl⟩) | exact ⟨rfl, rfl⟩) ?_) | refine Elem.recs hga (by first | (rw [valv_eq]; exact ⟨rfl, rfl⟩) | exact ⟨rfl, rfl⟩) ?_); simp only [valv_eq, w1, w2, aw21, aw20, List.take_succ_cons, List.take_zero, List.drop_zero, List.drop_succ_cons, List.length_map, ↓awD, awP, Nat.reduceLeDiff, Nat.reduceEqDiff, Nat.reduceAdd, Nat.zero_add, Int.cast_ofNat_Int, Int.reduceLT, Int.reduceLE, Int.reduceEq]) | ((first | refine EvF.ret (hca _) ?_ | refine EvRF.ret (hca _) ?_); simp only [w3, aw21, aw20, List.take_succ_cons, List.take_zero, List.drop_zero, List.drop_succ_cons, List.length_map, ↓awD, awP, Nat.reduceLeDiff, Nat.reduceEqDiff, Nat.reduceAdd, Nat.zero_add, Int.cast_ofNat_Int, Int.reduceLT, Int.reduceLE, Int.reduceEq]))
        exact ⟨(i + 1, fewVs a.l (g - 1 - a.names.length)), ⟨hi, ⟨⟨by omega, by omega⟩, hv⟩⟩, by simp only; omega, weak_of (rfl) (by simp [look])⟩
      · rw [fewVs, if_neg h0] at hv
        subst hv
        have d0 : decide (0 ≤ g) = false := by rw [decide_eq_false_iff_not]; exact h0
        simp only [d0, aw20, List.take_succ_cons, List.take_zero, List.drop_zero, List.drop_succ_cons, List.length_map, ↓awD, awP, Nat.reduceLeDiff, Nat.reduceEqDiff, Nat.reduceAdd, Nat.zero_add, Int.cast_ofNat_Int, Int.reduceLT, Int.reduceLE, Int.reduceEq]
        exact Fin.end hcl rfl (by first | rfl | exact (List.append_nil _).symm | (simp only [List.append_assoc]; rfl)) ⟨rfl, rfl⟩
    · rintro g ⟨_, hv⟩ e1
      rw [drop_len] at hv
      simp only [fewVs] at hv
      subst hv
      simp only [e1, aw20, List.take_succ_cons, List.take_zero, List.drop_zero, List.drop_succ_cons, List.length_map, ↓awD, awP, Nat.reduceLeDiff, Nat.reduceEqDiff, Nat.reduceAdd, Nat.zero_add, Int.cast_ofNat_Int, Int.reduceLT, Int.reduceLE, Int.reduceEq]
      exact Fin.end hcl rfl (by first | rfl | exact (List.append_nil _).symm | (simp only [List.append_assoc]; rfl)) ⟨rfl, rfl⟩

set_option maxHeartbeats 2000000 in
theorem rfew_ev : ∀ (k : Nat) (t : Ty), szT t ≤ k → mxT t ≤ 2 ^ 48 → ∀ (n : Int), -(2 : Int) ^ 49 ≤ n → n ≤ 2 ^ 60 → ∀ h, EvR E0 18 [tyv t, i64 n] h (i64 (fewT t n)) := by
  intro k
  induction k using Nat.strongRecOn with
  | _ k ih =>
    intro t hk hm n hn hn2 h
    refine ev_of (fn := Tryd.f18) (hs := []) Tryd.func18 c18 (by simp) fun hcl => ?_
    have hmx := mxT_le t
    have hsz := szT_eq t
    have hl1 := mxB_len t.names
    have hl2 := mxB_len t.more
    have hP1 := mxPs_len t.parts
    have hP2 := mxPs_len t.adds
    have hT := mxTs_len t.elem
    have w1 : IntKind.i64.wrap (n - 1) = n - 1 := by rw [wrap_i64] <;> omega
    have w2 : IntKind.i64.wrap (n - 1 - t.names.length) = n - 1 - t.names.length := by rw [wrap_i64] <;> omega
    have w4 : IntKind.i64.wrap (n - 1 - t.names.length - t.more.length) = n - 1 - t.names.length - t.more.length := by rw [wrap_i64] <;> omega
    have hcon := fun h => rfewCon_ev _ t.con (Nat.le_refl _) (by omega) (n - 1 - t.names.length - t.more.length) (by omega) (by omega) h
    have hcb := fewC_b t.con (n - 1 - t.names.length - t.more.length) (by omega)
    simp only [conv_eq] at hcon
    rw [fewT_eq]
    generalize hT0 : AObj.cells [AV.lit (Value.int IntKind.i64 t.kind), AV.lit (Value.string t.name), AV.lit (Value.int IntKind.i64 t.con.op), AV.lit (Value.int IntKind.i64 t.con.lo), AV.lit (Value.int IntKind.i64 t.con.hi), AV.lit (Value.bool t.con.low), AV.lit (Value.bool t.con.high),
      conl t.con.l, AV.lit (Value.bool t.ext), AV.lit (Value.string t.frm), strl t.names, strl t.more, prtl t.parts, prtl t.adds, tyl t.elem] = T
    have hmo : ∀ K t', mObj (some T) K t' = K [AV.lit (Value.int IntKind.i64 t.kind), AV.lit (Value.string t.name), AV.lit (Value.int IntKind.i64 t.con.op), AV.lit (Value.int IntKind.i64 t.con.lo), AV.lit (Value.int IntKind.i64 t.con.hi), AV.lit (Value.bool t.con.low), AV.lit (Value.bool t.con.high),
        conl t.con.l, AV.lit (Value.bool t.ext), AV.lit (Value.string t.frm), strl t.names, strl t.more, prtl t.parts, prtl t.adds, tyl t.elem] := fun K t' => by rw [← hT0]; rfl
    simp only [ac18, tyv_eq, hT0, hmo, w1, w2, w4, aw20, List.take_succ_cons, List.take_zero, List.drop_zero, List.drop_succ_cons, List.length_map, ↓awD, awP, Nat.reduceLeDiff, Nat.reduceEqDiff, Nat.reduceAdd, Nat.zero_add, Int.cast_ofNat_Int, Int.reduceLT, Int.reduceLE, Int.reduceEq]
    ((first | refine EvF.ret (hcon _) ?_ | refine EvRF.ret (hcon _) ?_); simp only [hmo, aw21, aw20, List.take_succ_cons, List.take_zero, List.drop_zero, List.drop_succ_cons, List.length_map, ↓awD, awP, Nat.reduceLeDiff, Nat.reduceEqDiff, Nat.reduceAdd, Nat.zero_add, Int.cast_ofNat_Int, Int.reduceLT, Int.reduceLE, Int.reduceEq])
    generalize fewC t.con (n - 1 - t.names.length - t.more.length) = g0 at hcb
    have hcell : ∀ tm : List (Nat × AV), (⟨tm, h ++ [T]⟩ : ASt).heap = h ++ [T] := fun _ => rfl
    refine LoopF.cut 0 (fun σ => σ.heap = h ++ [T] ∧ look σ.tmps 1 = i64 (fewPs t.parts g0) ∧ look σ.tmps 2 = .ref h.length 0) ?_ ?_
    · intro Q' hx _ _
      generalize hR : fewPs t.parts g0 = R at hx
      refine LoopF.list t.parts (by omega) (γ := Int) (fun i g => ⟨[(1, i64 g), (2, .ref h.length 0), (5, i64 i)], h ++ [T]⟩)
        (fun i g => (-(2 : Int) ^ 52 ≤ g ∧ g ≤ 2 ^ 60) ∧ fewPs (t.parts.drop i) g = R) g0 ⟨⟨by omega, by omega⟩, by simpa using hR⟩ (weak_of (by simp) (by simp [look, *])) ?_ ?_
      · rintro i a g ha ⟨hg, hv⟩ hi e1 w3
        rw [drop_get ha] at hv
        have hga := map_get prtv t.parts i a ha
        have hma := mxPs_mem (List.mem_of_getElem? ha)
        have hza := szPs_mem (List.mem_of_getElem? ha)
        have hpm := mxP_le a
        have hpz := szP_eq a
        simp only [e1, hmo, aw20, List.take_succ_cons, List.take_zero, List.drop_zero, List.drop_succ_cons, List.length_map, ↓awD, awP, Nat.reduceLeDiff, Nat.reduceEqDiff, Nat.reduceAdd, Nat.zero_add, Int.cast_ofNat_Int, Int.reduceLT, Int.reduceLE, Int.reduceEq]
        by_cases h0 : 0 ≤ g
        · have hb := fewP_b a g (by omega) h0
          have v1 : IntKind.i64.wrap (g - 1) = g - 1 := by rw [wrap_i64] <;> omega
          have hvb := fewVs_b a.dfl (g - 1) (by omega) (by omega)
          have hcd := fun h => rfewDefs_ev _ a.dfl (Nat.le_refl _) (by omega) (g - 1) (by omega) (by omega) h
          have hct := fun h => ih (szT a.t) (by omega) a.t (Nat.le_refl _) (by omega) (fewVs a.dfl (g - 1)) (by omega) (by omega) h
          simp only [tyv_eq] at hct
          rw [fewPs, if_pos h0, fewP_eq] at hv
          rw [fewP_eq] at hb
          have d0 : decide (0 ≤ g) = true := by rw [decide_eq_true_eq]; exact h0
          simp only [d0, hmo, aw20, List.take_succ_cons, List.take_zero, List.drop_zero, List.drop_succ_cons, List.length_map, ↓awD, awP, Nat.reduceLeDiff, Nat.reduceEqDiff, Nat.reduceAdd, Nat.zero_add, Int.cast_ofNat_Int, Int.reduceLT, Int.reduceLE, Int.reduceEq]
          repeat' (first | ((first | refine Need.mk (by first | (first | omega | (simp only [decide_eq_true_eq, decide_eq_false_iff_not, Bool.and_eq_true, Bool.not_eq_true', Bool.not_eq_false', List.length_map] at *; omega) | (simp; omega)) | (constructor <;> (first | omega | (simp only [decide_eq_true_eq, decide_eq_false_iff_not, Bool.and_eq_true, Bool.not_eq_true', Bool.not_eq_false', List.length_map] at *; omega) | (simp; omega)))) (Elem.recs hga (by first | (rw [prtv_eq]; exact ⟨rfl, rfl⟩) | exact ⟨rfl, rfl⟩) ?_) | refine Elem.recs hga (by first | (rw [prtv_eq]; exact ⟨rfl, rfl⟩) | exact ⟨rfl, rfl⟩) ?_); simp only [prtv_eq, hmo, v1, aw21, aw20, List.take_succ_cons, List.take_zero, List.drop_zero, List.drop_succ_cons, List.length_map, ↓awD, awP, Nat.reduceLeDiff, Nat.reduceEqDiff, Nat.reduceAdd, Nat.zero_add, Int.cast_ofNat_Int, Int.reduceLT, Int.reduceLE, Int.reduceEq]) | ((first | refine EvF.ret (hcd _) ?_ | refine EvRF.ret (hcd _) ?_); simp only [hmo, aw21, aw20, List.take_succ_cons, List.take_zero, List.drop_zero, List.drop_succ_cons, List.length_map, ↓awD, awP, Nat.reduceLeDiff, Nat.reduceEqDiff, Nat.reduceAdd, Nat.zero_add, Int.cast_ofNat_Int, Int.reduceLT, Int.reduceLE, Int.reduceEq]) | ((first | refine EvF.ret (hct _) ?_ | refine EvRF.ret (hct _) ?_); simp only [hmo, w3, aw21, aw20, List.take_succ_cons, List.take_zero, List.drop_zero, List.drop_succ_cons, List.length_map, ↓awD, awP, Nat.reduceLeDiff, Nat.reduceEqDiff, Nat.reduceAdd, Nat.zero_add, Int.cast_ofNat_Int, Int.reduceLT, Int.reduceLE, Int.reduceEq]))
          exact ⟨(i + 1, fewT a.t (fewVs a.dfl (g - 1))), ⟨hi, ⟨⟨by omega, by omega⟩, hv⟩⟩, by simp only; omega, weak_of (rfl) (by simp [look])⟩
        · rw [fewPs, if_neg h0] at hv
          subst hv
          have d0 : decide (0 ≤ g) = false := by rw [decide_eq_false_iff_not]; exact h0
          simp only [d0, aw20, List.take_succ_cons, List.take_zero, List.drop_zero, List.drop_succ_cons, List.length_map, ↓awD, awP, Nat.reduceLeDiff, Nat.reduceEqDiff, Nat.reduceAdd, Nat.zero_add, Int.cast_ofNat_Int, Int.reduceLT, Int.reduceLE, Int.reduceEq]
          exact hx _ ⟨rfl, by simp [look], by simp [look]⟩
      · rintro g ⟨_, hv⟩ e1
        rw [drop_len] at hv
        simp only [fewPs] at hv
        subst hv
        simp only [e1, hmo, aw20, List.take_succ_cons, List.take_zero, List.drop_zero, List.drop_succ_cons, List.length_map, ↓awD, awP, Nat.reduceLeDiff, Nat.reduceEqDiff, Nat.reduceAdd, Nat.zero_add, Int.cast_ofNat_Int, Int.reduceLT, Int.reduceLE, Int.reduceEq]
        exact hx _ ⟨rfl, by simp [look], by simp [look]⟩
    have hpb5 := fewPs_b t.parts g0 (by omega) (by omega)
    generalize fewPs t.parts g0 = g5 at hpb5 ⊢
    rintro ⟨tm, hp⟩ ⟨h0, k1, k2⟩
    simp only at h0 k1 k2
    subst h0
    simp only [k1, k2, hmo, aw20, List.take_succ_cons, List.take_zero, List.drop_zero, List.drop_succ_cons, List.length_map, ↓awD, awP, Nat.reduceLeDiff, Nat.reduceEqDiff, Nat.reduceAdd, Nat.zero_add, Int.cast_ofNat_Int, Int.reduceLT, Int.reduceLE, Int.reduceEq]
    refine LoopF.cut 2 (fun σ => σ.heap = h ++ [T] ∧ look σ.tmps 1 = i64 (fewPs t.adds g5) ∧ look σ.tmps 2 = .ref h.length 0) ?_ ?_
    · intro Q' hx _ _
      generalize hR : fewPs t.adds g5 = R at hx
      refine LoopF.list t.adds (by omega) (γ := Int) (fun i g => ⟨[(1, i64 g), (2, .ref h.length 0), (6, i64 i)], h ++ [T]⟩)
        (fun i g => (-(2 : Int) ^ 52 ≤ g ∧ g ≤ 2 ^ 60) ∧ fewPs (t.adds.drop i) g = R) g5 ⟨⟨by omega, by omega⟩, by simpa using hR⟩ (weak_of (by simp) (by simp [look, *])) ?_ ?_
      · rintro i a g ha ⟨hg, hv⟩ hi e1 w3
        rw [drop_get ha] at hv
        have hga := map_get prtv t.adds i a ha
        have hma := mxPs_mem (List.mem_of_getElem? ha)
        have hza := szPs_mem (List.mem_of_getElem? ha)
        have hpm := mxP_le a
        have hpz := szP_eq a
        simp only [e1, hmo, aw20, List.take_succ_cons, List.take_zero, List.drop_zero, List.drop_succ_cons, List.length_map, ↓awD, awP, Nat.reduceLeDiff, Nat.reduceEqDiff, Nat.reduceAdd, Nat.zero_add, Int.cast_ofNat_Int, Int.reduceLT, Int.reduceLE, Int.reduceEq]
        by_cases h0 : 0 ≤ g
        · have hb := fewP_b a g (by omega) h0
          have v1 : IntKind.i64.wrap (g - 1) = g - 1 := by rw [wrap_i64] <;> omega
          have hvb := fewVs_b a.dfl (g - 1) (by omega) (by omega)
          have hcd := fun h => rfewDefs_ev _ a.dfl (Nat.le_refl _) (by omega) (g - 1) (by omega) (by omega) h
          have hct := fun h => ih (szT a.t) (by omega) a.t (Nat.le_refl _) (by omega) (fewVs a.dfl (g - 1)) (by omega) (by omega) h
          simp only [tyv_eq] at hct
          rw [fewPs, if_pos h0, fewP_eq] at hv
          rw [fewP_eq] at hb
          have d0 : decide (0 ≤ g) = true := by rw [decide_eq_true_eq]; exact h0
          simp only [d0, hmo, aw20, List.take_succ_cons, List.take_zero, List.drop_zero, List.drop_succ_cons, List.length_map, ↓awD, awP, Nat.reduceLeDiff, Nat.reduceEqDiff, Nat.reduceAdd, Nat.zero_add, Int.cast_ofNat_Int, Int.reduceLT, Int.reduceLE, Int.reduceEq]
          repeat' (first | ((first | refine Need.mk (by first | (first | omega | (simp only [decide_eq_true_eq, decide_eq_false_iff_not, Bool.and_eq_true, Bool.not_eq_true', Bool.not_eq_false', List.length_map] at *; omega) | (simp; omega)) | (constructor <;> (first | omega | (simp only [decide_eq_true_eq, decide_eq_false_iff_not, Bool.and_eq_true, Bool.not_eq_true', Bool.not_eq_false', List.length_map] at *; omega) | (simp; omega)))) (Elem.recs hga (by first | (rw [prtv_eq]; exact ⟨rfl, rfl⟩) | exact ⟨rfl, rfl⟩) ?_) | refine Elem.recs hga (by first | (rw [prtv_eq]; exact ⟨rfl, rfl⟩) | exact ⟨rfl, rfl⟩) ?_); simp only [prtv_eq, hmo, v1, aw21, aw20, List.take_succ_cons, List.take_zero, List.drop_zero, List.drop_succ_cons, List.length_map, ↓awD, awP, Nat.reduceLeDiff, Nat.reduceEqDiff, Nat.reduceAdd, Nat.zero_add, Int.cast_ofNat_Int, Int.reduceLT, Int.reduceLE, Int.reduceEq]) | ((first | refine EvF.ret (hcd _) ?_ | refine EvRF.ret (hcd _) ?_); simp only [hmo, aw21, aw20, List.take_succ_cons, List.take_zero, List.drop_zero, List.drop_succ_cons, List.length_map, ↓awD, awP, Nat.reduceLeDiff, Nat.reduceEqDiff, Nat.reduceAdd, Nat.zero_add, Int.cast_ofNat_Int, Int.reduceLT, Int.reduceLE, Int.reduceEq]) | ((first | refine EvF.ret (hct _) ?_ | refine EvRF.ret (hct _) ?_); simp only [hmo, w3, aw21, aw20, List.take_succ_cons, List.take_zero, List.drop_zero, List.drop_succ_cons, List.length_map, ↓awD, awP, Nat.reduceLeDiff, Nat.reduceEqDiff, Nat.reduceAdd, Nat.zero_add, Int.cast_ofNat_Int, Int.reduceLT, Int.reduceLE, Int.reduceEq]))
          exact ⟨(i + 1, fewT a.t (fewVs a.dfl (g - 1))), ⟨hi, ⟨⟨by omega, by omega⟩, hv⟩⟩, by simp only; omega, weak_of (rfl) (by simp [look])⟩
        · rw [fewPs, if_neg h0] at hv
          subst hv
          have d0 : decide (0 ≤ g) = false := by rw [decide_eq_false_iff_not]; exact h0
          simp only [d0, aw20, List.take_succ_cons, List.take_zero, List.drop_zero, List.drop_succ_cons, List.length_map, ↓awD, awP, Nat.reduceLeDiff, Nat.reduceEqDiff, Nat.reduceAdd, Nat.zero_add, Int.cast_ofNat_Int, Int.reduceLT, Int.reduceLE, Int.reduceEq]
          exact hx _ ⟨rfl, by simp [look], by simp [look]⟩
      · rintro g ⟨_, hv⟩ e1
        rw [drop_len] at hv
        simp only [fewPs] at hv
        subst hv
        simp only [e1, hmo, aw20, List.take_succ_cons, List.take_zero, List.drop_zero, List.drop_succ_cons, List.length_map, ↓awD, awP, Nat.reduceLeDiff, Nat.reduceEqDiff, Nat.reduceAdd, Nat.zero_add, Int.cast_ofNat_Int, Int.reduceLT, Int.reduceLE, Int.reduceEq]
        exact hx _ ⟨rfl, by simp [look], by simp [look]⟩
    have hpb6 := fewPs_b t.adds g5 (by omega) (by omega)
    generalize fewPs t.adds g5 = g6 at hpb6 ⊢
    rintro ⟨tm, hp⟩ ⟨h0, k1, k2⟩
    simp only at h0 k1 k2
    subst h0
    simp only [k1, k2, hmo, aw20, List.take_succ_cons, List.take_zero, List.drop_zero, List.drop_succ_cons, List.length_map, ↓awD, awP, Nat.reduceLeDiff, Nat.reduceEqDiff, Nat.reduceAdd, Nat.zero_add, Int.cast_ofNat_Int, Int.reduceLT, Int.reduceLE, Int.reduceEq]
    refine LoopF.cut 4 (fun σ => σ.heap = h ++ [T] ∧ look σ.tmps 1 = i64 (fewTs t.elem g6) ∧ look σ.tmps 2 = .ref h.length 0) ?_ ?_
    · intro Q' hx _ _
      generalize hR : fewTs t.elem g6 = R at hx
      refine LoopF.list t.elem (by omega) (γ := Int) (fun i g => ⟨[(1, i64 g), (2, .ref h.length 0), (7, i64 i)], h ++ [T]⟩)
        (fun i g => (-(2 : Int) ^ 52 ≤ g ∧ g ≤ 2 ^ 60) ∧ fewTs (t.elem.drop i) g = R) g6 ⟨⟨by omega, by omega⟩, by simpa using hR⟩ (weak_of (by simp) (by simp [look, *])) ?_ ?_
      · rintro i a g ha ⟨hg, hv⟩ hi e1 w3
        rw [drop_get ha] at hv
        have hga := map_get tyv t.elem i a ha
        have hma := mxTs_mem (List.mem_of_getElem? ha)
        have hza := szTs_mem (List.mem_of_getElem? ha)
        simp only [e1, hmo, aw20, List.take_succ_cons, List.take_zero, List.drop_zero, List.drop_succ_cons, List.length_map, ↓awD, awP, Nat.reduceLeDiff, Nat.reduceEqDiff, Nat.reduceAdd, Nat.zero_add, Int.cast_ofNat_Int, Int.reduceLT, Int.reduceLE, Int.reduceEq]
        by_cases h0 : 0 ≤ g
        · have hb := fewT_b a g (by omega) (by omega)
          have v1 : IntKind.i64.wrap (g - 1) = g - 1 := by rw [wrap_i64] <;> omega
          have hct := fun h => ih (szT a) (by omega) a (Nat.le_refl _) (by omega) g (by omega) (by omega) h
          simp only [tyv_eq] at hct
          rw [fewTs, if_pos h0] at hv
          have d0 : decide (0 ≤ g) = true := by rw [decide_eq_true_eq]; exact h0
          simp only [d0, hmo, aw20, List.take_succ_cons, List.take_zero, List.drop_zero, List.drop_succ_cons, List.length_map, ↓awD, awP, Nat.reduceLeDiff, Nat.reduceEqDiff, Nat.reduceAdd, Nat.zero_add, Int.cast_ofNat_Int, Int.reduceLT, Int.reduceLE, Int.reduceEq]
          repeat' (first | ((first | refine Need.mk (by first | (first | omega | (simp only [decide_eq_true_eq, decide_eq_false_iff_not, Bool.and_eq_true, Bool.not_eq_true', Bool.not_eq_false', List.length_map] at *; omega) | (simp; omega)) | (constructor <;> (first | omega | (simp only [decide_eq_true_eq, decide_eq_false_iff_not, Bool.and_eq_true, Bool.not_eq_true', Bool.not_eq_false', List.length_map] at *; omega) | (simp; omega)))) (Elem.recs hga (by first | (rw [tyv_eq]; exact ⟨rfl, rfl⟩) | exact ⟨rfl, rfl⟩) ?_) | refine Elem.recs hga (by first | (rw [tyv_eq]; exact ⟨rfl, rfl⟩) | exact ⟨rfl, rfl⟩) ?_); simp only [tyv_eq, hmo, v1, aw21, aw20, List.take_succ_cons, List.take_zero, List.drop_zero, List.drop_succ_cons, List.length_map, ↓awD, awP, Nat.reduceLeDiff, Nat.reduceEqDiff, Nat.reduceAdd, Nat.zero_add, Int.cast_ofNat_Int, Int.reduceLT, Int.reduceLE, Int.reduceEq]) | ((first | refine EvF.ret (hct _) ?_ | refine EvRF.ret (hct _) ?_); simp only [hmo, w3, aw21, aw20, List.take_succ_cons, List.take_zero, List.drop_zero, List.drop_succ_cons, List.length_map, ↓awD, awP, Nat.reduceLeDiff, Nat.reduceEqDiff, Nat.reduceAdd, Nat.zero_add, Int.cast_ofNat_Int, Int.reduceLT, Int.reduceLE, Int.reduceEq]))
          exact ⟨(i + 1, fewT a g), ⟨hi, ⟨⟨by omega, by omega⟩, hv⟩⟩, by simp only; omega, weak_of (rfl) (by simp [look])⟩
        · rw [fewTs, if_neg h0] at hv
          subst hv
          have d0 : decide (0 ≤ g) = false := by rw [decide_eq_false_iff_not]; exact h0
          simp only [d0, aw20, List.take_succ_cons, List.take_zero, List.drop_zero, List.drop_succ_cons, List.length_map, ↓awD, awP, Nat.reduceLeDiff, Nat.reduceEqDiff, Nat.reduceAdd, Nat.zero_add, Int.cast_ofNat_Int, Int.reduceLT, Int.reduceLE, Int.reduceEq]
          exact hx _ ⟨rfl, by simp [look], by simp [look]⟩
      · rintro g ⟨_, hv⟩ e1
        rw [drop_len] at hv
        simp only [fewTs] at hv
        subst hv
        simp only [e1, hmo, aw20, List.take_succ_cons, List.take_zero, List.drop_zero, List.drop_succ_cons, List.length_map, ↓awD, awP, Nat.reduceLeDiff, Nat.reduceEqDiff, Nat.reduceAdd, Nat.zero_add, Int.cast_ofNat_Int, Int.reduceLT, Int.reduceLE, Int.reduceEq]
        exact hx _ ⟨rfl, by simp [look], by simp [look]⟩
    have hpb7 := fewTs_b t.elem g6 (by omega) (by omega)
    generalize fewTs t.elem g6 = g7 at hpb7 ⊢
    rintro ⟨tm, hp⟩ ⟨h0, k1, k2⟩
    simp only at h0 k1 k2
    subst h0
    simp only [k1, k2, hmo, aw20, List.take_succ_cons, List.take_zero, List.drop_zero, List.drop_succ_cons, List.length_map, ↓awD, awP, Nat.reduceLeDiff, Nat.reduceEqDiff, Nat.reduceAdd, Nat.zero_add, Int.cast_ofNat_Int, Int.reduceLT, Int.reduceLE, Int.reduceEq]
    refine Fin.end hcl rfl (by first | rfl | exact (List.append_nil _).symm | (simp only [List.append_assoc]; rfl)) ⟨?_, rfl⟩
    rfl

theorem few_ev2 (t : Ty) (hm : mxT t ≤ 2 ^ 48) (n : Int) (hn : -(2 : Int) ^ 49 ≤ n) (hn2 : n ≤ 2 ^ 60) (h : List AObj) : EvR E0 7 [tyv t, i64 n] h (boolv (decide (0 ≤ fewT t n))) := by
  refine ev_of (fn := Tryd.f7) (hs := []) Tryd.func7 c7 (by simp) fun hcl => ?_
  have h1 := fun h => rfew_ev _ t (Nat.le_refl _) hm n hn hn2 h
  simp only [tyv_eq] at h1
  simp only [ac7, tyv_eq, aw20, List.take_succ_cons, List.take_zero, List.drop_zero, List.drop_succ_cons, List.length_map, ↓awD, awP, Nat.reduceLeDiff, Nat.reduceEqDiff, Nat.reduceAdd, Nat.zero_add, Int.cast_ofNat_Int, Int.reduceLT, Int.reduceLE, Int.reduceEq]
  repeat' ((first | refine EvF.ret (h1 _) ?_ | refine EvRF.ret (h1 _) ?_); simp only [aw21, aw21, aw20, List.take_succ_cons, List.take_zero, List.drop_zero, List.drop_succ_cons, List.length_map, ↓awD, awP, Nat.reduceLeDiff, Nat.reduceEqDiff, Nat.reduceAdd, Nat.zero_add, Int.cast_ofNat_Int, Int.reduceLT, Int.reduceLE, Int.reduceEq])
  all_goals (refine Fin.end hcl rfl (by first | rfl | exact (List.append_nil _).symm | (simp only [List.append_assoc]; rfl)) ⟨?_, rfl⟩; first | rfl | ((try simp only [dnat, decide_eq_true_eq, decide_eq_false_iff_not, List.length_eq_zero_iff, List.length_pos_iff] at *); first | (simp [*, aw21]; done) | (simp [*, aw21]; omega) | (clear hcl; simp [*, aw21] <;> grind) | (simp [*, aw21])))
theorem fewCon_ev2 (c : Con) (hm : mxC c ≤ 2 ^ 48) (n : Int) (hn : -(2 : Int) ^ 49 ≤ n) (hn2 : n ≤ 2 ^ 60) (h : List AObj) : EvR E0 12 [conv c, i64 n] h (boolv (decide (0 ≤ fewC c n))) := by
  refine ev_of (fn := Tryd.f12) (hs := []) Tryd.func12 c12 (by simp) fun hcl => ?_
  have h1 := fun h => rfewCon_ev _ c (Nat.le_refl _) hm n (by omega) hn2 h
  simp only [conv_eq] at h1
  simp only [ac12, conv_eq, aw20, List.take_succ_cons, List.take_zero, List.drop_zero, List.drop_succ_cons, List.length_map, ↓awD, awP, Nat.reduceLeDiff, Nat.reduceEqDiff, Nat.reduceAdd, Nat.zero_add, Int.cast_ofNat_Int, Int.reduceLT, Int.reduceLE, Int.reduceEq]
  repeat' ((first | refine EvF.ret (h1 _) ?_ | refine EvRF.ret (h1 _) ?_); simp only [aw21, aw21, aw20, List.take_succ_cons, List.take_zero, List.drop_zero, List.drop_succ_cons, List.length_map, ↓awD, awP, Nat.reduceLeDiff, Nat.reduceEqDiff, Nat.reduceAdd, Nat.zero_add, Int.cast_ofNat_Int, Int.reduceLT, Int.reduceLE, Int.reduceEq])
  all_goals (refine Fin.end hcl rfl (by first | rfl | exact (List.append_nil _).symm | (simp only [List.append_assoc]; rfl)) ⟨?_, rfl⟩; first | rfl | ((try simp only [dnat, decide_eq_true_eq, decide_eq_false_iff_not, List.length_eq_zero_iff, List.length_pos_iff] at *); first | (simp [*, aw21]; done) | (simp [*, aw21]; omega) | (clear hcl; simp [*, aw21] <;> grind) | (simp [*, aw21])))
theorem fewValues_ev2 (l : List Val) (hm : mxVs l ≤ 2 ^ 48) (n : Int) (hn : -(2 : Int) ^ 49 ≤ n) (hn2 : n ≤ 2 ^ 60) (h : List AObj) : EvR E0 10 [vall l, i64 n] h (boolv (decide (0 ≤ fewVs l n))) := by
  refine ev_of (fn := Tryd.f10) (hs := []) Tryd.func10 c10 (by simp) fun hcl => ?_
  have h1 := fun h => rfewDefs_ev _ l (Nat.le_refl _) hm n hn hn2 h
  simp only [ac10, aw20, List.take_succ_cons, List.take_zero, List.drop_zero, List.drop_succ_cons, List.length_map, ↓awD, awP, Nat.reduceLeDiff, Nat.reduceEqDiff, Nat.reduceAdd, Nat.zero_add, Int.cast_ofNat_Int, Int.reduceLT, Int.reduceLE, Int.reduceEq]
  repeat' ((first | refine EvF.ret (h1 _) ?_ | refine EvRF.ret (h1 _) ?_); simp only [aw21, aw21, aw20, List.take_succ_cons, List.take_zero, List.drop_zero, List.drop_succ_cons, List.length_map, ↓awD, awP, Nat.reduceLeDiff, Nat.reduceEqDiff, Nat.reduceAdd, Nat.zero_add, Int.cast_ofNat_Int, Int.reduceLT, Int.reduceLE, Int.reduceEq])
  all_goals (refine Fin.end hcl rfl (by first | rfl | exact (List.append_nil _).symm | (simp only [List.append_assoc]; rfl)) ⟨?_, rfl⟩; first | rfl | ((try simp only [dnat, decide_eq_true_eq, decide_eq_false_iff_not, List.length_eq_zero_iff, List.length_pos_iff] at *); first | (simp [*, aw21]; done) | (simp [*, aw21]; omega) | (clear hcl; simp [*, aw21] <;> grind) | (simp [*, aw21])))
end Go.Abs.Fr
