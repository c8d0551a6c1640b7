/- The text of constraints: the writer. -/
import Derived.Test.YthhhpaifelgcpaaDoorS08Row
import Derived.Test.YthhhpaifelgcpaaDoorS08FrB
import Derived.Test.YthhhpaifelgcpaaDoorS08Num
import Derived.Test.YthhhpaifelgcpaaDoorAbsK2
set_option linter.all false
namespace Go.Abs.Fr
open Go Go.Abs Go.Proofs
set_option linter.unusedSimpArgs false
set_option maxRecDepth 100000

/-- (*spandrel/shape.writer).put -/
def ac40 : ACode := (.seq (.region [⟨(some 6), (.move (.tmp 1)), none⟩, ⟨(some 7), (.len false (.tmp 6)), none⟩, ⟨(some 8), (.move (.const (.int .i64 0))), none⟩]) (.block 0 (.loop (.seq (.region [⟨(some 9), (.bin .lss (.tmp 8) (.tmp 7)), none⟩]) (.seq (.cond (.tmp 9) .skip (.exit 0)) (.seq (.block 1 (.seq (.region [⟨(some 10), (.indexAddr 1 (.tmp 6) (.tmp 8)), none⟩, ⟨(some 11), (.load none (.tmp 10)), none⟩, ⟨(some 5), (.move (.tmp 11)), none⟩]) (.region [⟨(some 12), (.move (.tmp 0)), none⟩, ⟨(some 13), (.nilCheck (.tmp 12)), none⟩, ⟨(some 14), (.fieldAddr 0 (.tmp 13)), none⟩, ⟨(some 15), (.move (.tmp 5)), none⟩, ⟨(some 16), (.call (.func 59) [((.tmp 14), false), ((.tmp 15), false)]), none⟩]))) (.region [⟨(some 17), (.bin .add (.tmp 8) (.const (.int .i64 1))), none⟩, ⟨(some 8), (.move (.tmp 17)), none⟩])))))))
theorem c40 : cfn E0.P [] Tryd.f40 = some (ac40, [], 18) := by kernel_rfl

abbrev wrS (out : List UInt8) : AObj := .cells [.bp 54, .buf 5 out]
theorem liesS : lies 54 2 := by unfold lies; kernel_rfl
/-- The objects, of which one is a writer that has written so much. -/
def hw (h : List AObj) (id : Nat) (out : List UInt8) : List AObj := h.set id (wrS out)
section
variable {h : List AObj} {id : Nat} {out : List UInt8} (hid : id < h.length)
theorem hw_len : (hw h id out).length = h.length := List.length_set
theorem hw_set (o : List UInt8) : (hw h id out).set id (wrS o) = hw h id o := List.set_set ..
include hid
theorem hw_get : (hw h id out)[id]? = some (wrS out) := List.getElem?_set_self hid
theorem hw_app (J : List AObj) : hw h id out ++ J = hw (h ++ J) id out := (List.set_append_left _ _ hid).symm
omit hid in
theorem hw_ne {k : Nat} (hk : id < k) : (hw h id out)[k]? = h[k]? := List.getElem?_set_ne (by omega)
omit hid in
theorem hw_setk {k : Nat} (hk : id < k) (v : AObj) : (hw h id out).set k v = hw (h.set k v) id out := List.set_comm _ _ (by omega)
theorem hL1 (a : List AObj) : id < (h ++ a).length := by simp; omega
theorem hL2 (a b : List AObj) : id < (h ++ a ++ b).length := by simp; omega
theorem hL3 (a b c : List AObj) : id < (h ++ a ++ b ++ c).length := by simp; omega
theorem hL4 (a b c d : List AObj) : id < (h ++ a ++ b ++ c ++ d).length := by simp; omega
omit hid in
theorem getC (C : AObj) (J : List AObj) : (h ++ [C] ++ J)[h.length]? = some C := by rw [List.append_assoc]; simp
omit hid in
theorem getC2 (C : AObj) (J K : List AObj) : (h ++ [C] ++ J ++ K)[h.length]? = some C := by rw [List.append_assoc, List.append_assoc]; simp
theorem Fin.hw {B J : List AObj} {out' : List UInt8} {v : AV} {Q : ARes → List AObj → Prop} {t} (hc : Closed (Fr.hw h id out)) (hu : AV.under h.length v = true) (hB : B = h ++ J) (hq : Q (.ret v) (Fr.hw h id out')) : Fin (Fr.hw B id out') h.length v Q t := by
  subst hB
  refine Fin.junk (h := Fr.hw h id out') (junk := J) (hw_app hid J).symm (by rw [hw_len]; exact Nat.le_refl _) ?_ (by rw [hw_len]; exact hu) hq
  have := closed_set (s := id) (l := [.bp 54, .buf 5 out']) hc rfl
  rw [hw_set] at this
  exact this
end
theorem hw_new (X : List AObj) (a : AObj) (o : List UInt8) : hw (X ++ [a]) X.length o = X ++ [wrS o] := by simp [hw]
def tx (l : List ByteArray) : List UInt8 := l.flatMap fun s => s.data.toList
theorem tx_snoc (l : List ByteArray) (i : Nat) (x : ByteArray) (h : l[i]? = some x) : tx (l.take (i + 1)) = tx (l.take i) ++ x.data.toList := by
  obtain ⟨hi, he⟩ := List.getElem?_eq_some_iff.1 h
  unfold tx
  rw [List.take_succ_eq_append_getElem hi, he]; simp
theorem tx_le (l : List ByteArray) (i : Nat) : (tx (l.take i)).length ≤ (tx l).length := by
  have : tx l = tx (l.take i) ++ tx (l.drop i) := by unfold tx; rw [← List.flatMap_append, List.take_append_drop]
  rw [this]; simp

theorem tx_cons (a : ByteArray) (l : List ByteArray) : tx (a :: l) = a.data.toList ++ tx l := rfl
theorem tx_nil : tx [] = [] := rfl
theorem put_ev {h : List AObj} {id : Nat} {out : List UInt8} (hid : id < h.length) (l : List ByteArray) (hl : l.length ≤ 1000) (hlen : out.length + (tx l).length ≤ 140737488355328) :
    Ev E0 40 [.ref id 0, .sl .full (l.map str)] (hw h id out) (fun r h' => r = .ret (.tup []) ∧ h' = hw h id (out ++ tx l)) := by
  refine ev_of (fn := Tryd.f40) (hs := []) Tryd.func40 c40 (by simp) fun hcl => ?_
  simp only [ac40, hw_len, hw_set, hw_app, hw_get, hw_ne, hw_setk, getC, getC2, hid, hL1 hid, hL2 hid, hL3 hid, hL4 hid, aw20, List.take_succ_cons, List.take_zero, List.drop_zero, List.drop_succ_cons, List.length_map, ↓awD, awP, Nat.reduceLeDiff, Nat.reduceEqDiff, Nat.reduceAdd, Nat.zero_add, Int.cast_ofNat_Int, Int.reduceLT, Int.reduceLE, Int.reduceEq]
  refine LoopF.list l (by omega) (γ := Unit) (fun i _ => ⟨[(0, .ref id 0), (6, .sl .full (l.map str)), (7, i64 l.length), (8, i64 i)], hw h id (out ++ tx (l.take i))⟩) (fun _ _ => True) () trivial (weak_of (by simp [tx]) (by simp [look])) ?_ ?_
  · rintro i x _ hx _ hi e1 w3
    have hga := map_get str l i x hx
    have hsn := tx_snoc l i x hx
    have hle := tx_le l (i + 1)
    rw [hsn, List.length_append] at hle
    simp only [e1, aw20, List.take_succ_cons, List.take_zero, List.drop_zero, List.drop_succ_cons, List.length_map, ↓awD, awP, Nat.reduceLeDiff, Nat.reduceEqDiff, Nat.reduceAdd, Nat.zero_add, Int.cast_ofNat_Int, Int.reduceLT, Int.reduceLE, Int.reduceEq]
    repeat' ((first | refine Need.mk (by first | (first | omega | (simp only [decide_eq_true_eq, decide_eq_false_iff_not, Bool.and_eq_true, Bool.not_eq_true', Bool.not_eq_false', List.length_map] at *; omega) | (simp; omega)) | (constructor <;> (first | omega | (simp only [decide_eq_true_eq, decide_eq_false_iff_not, Bool.and_eq_true, Bool.not_eq_true', Bool.not_eq_false', List.length_map] at *; omega) | (simp; omega)))) (Elem.recs hga (by first | (rw [str]; exact ⟨rfl, rfl⟩) | exact ⟨rfl, rfl⟩) ?_) | refine Elem.recs hga (by first | (rw [str]; exact ⟨rfl, rfl⟩) | exact ⟨rfl, rfl⟩) ?_); simp only [str, aw21, aw21, aw20, List.take_succ_cons, List.take_zero, List.drop_zero, List.drop_succ_cons, List.length_map, ↓awD, awP, Nat.reduceLeDiff, Nat.reduceEqDiff, Nat.reduceAdd, Nat.zero_add, Int.cast_ofNat_Int, Int.reduceLT, Int.reduceLE, Int.reduceEq])
    refine EvF.use (writeString_ev x (hw_get hid) liesS (by simp only [List.length_append]; rw [show x.size = x.data.toList.length by simp]; omega)) ?_
    rintro r h' ⟨rfl, rfl⟩
    simp only [w3, aw20, List.take_succ_cons, List.take_zero, List.drop_zero, List.drop_succ_cons, List.length_map, ↓awD, awP, Nat.reduceLeDiff, Nat.reduceEqDiff, Nat.reduceAdd, Nat.zero_add, Int.cast_ofNat_Int, Int.reduceLT, Int.reduceLE, Int.reduceEq]
    exact ⟨(i + 1, ()), hi, by simp only; omega, weak_of (by rw [hsn, ← List.append_assoc, hw_set]) (by simp [look])⟩
  · rintro _ _ e1
    rw [take_len]
    simp only [e1, hw_len, hw_set, hw_app, hw_get, hw_ne, hw_setk, getC, getC2, hid, hL1 hid, hL2 hid, hL3 hid, hL4 hid, aw20, List.take_succ_cons, List.take_zero, List.drop_zero, List.drop_succ_cons, List.length_map, ↓awD, awP, Nat.reduceLeDiff, Nat.reduceEqDiff, Nat.reduceAdd, Nat.zero_add, Int.cast_ofNat_Int, Int.reduceLT, Int.reduceLE, Int.reduceEq]
    exact Fin.hw hid hcl rfl (by first | rfl | exact (List.append_nil _).symm | (simp only [List.append_assoc]; rfl)) ⟨rfl, rfl⟩
end Go.Abs.Fr

namespace Go.Abs.Fr
open Go Go.Abs Go.Proofs
set_option linter.unusedSimpArgs false
set_option maxRecDepth 100000

/-- spandrel/shape.Keyword -/
def ac17 : ACode := (.seq (.region [⟨(some 2), (.move (.const (.bool false))), none⟩]) (.seq (.seq (.region [⟨(some 3), (.move (.tmp 0)), none⟩]) (.block 0 (.seq (.seq (.region [⟨(some 5), (.bin .eql (.tmp 3) (.const (.string (⟨#[66, 79, 79, 76, 69, 65, 78]⟩ : ByteArray)))), none⟩, ⟨(some 4), (.move (.tmp 5)), none⟩]) (.cond (.tmp 4) .skip (.seq (.region [⟨(some 6), (.bin .eql (.tmp 3) (.const (.string (⟨#[73, 78, 84, 69, 71, 69, 82]⟩ : ByteArray)))), none⟩, ⟨(some 4), (.move (.tmp 6)), none⟩]) (.cond (.tmp 4) .skip (.seq (.region [⟨(some 7), (.bin .eql (.tmp 3) (.const (.string (⟨#[69, 78, 85, 77, 69, 82, 65, 84, 69, 68]⟩ : ByteArray)))), none⟩, ⟨(some 4), (.move (.tmp 7)), none⟩]) (.cond (.tmp 4) .skip (.seq (.region [⟨(some 8), (.bin .eql (.tmp 3) (.const (.string (⟨#[78, 85, 76, 76]⟩ : ByteArray)))), none⟩, ⟨(some 4), (.move (.tmp 8)), none⟩]) (.cond (.tmp 4) .skip (.seq (.region [⟨(some 9), (.bin .eql (.tmp 3) (.const (.string (⟨#[66, 73, 84]⟩ : ByteArray)))), none⟩, ⟨(some 4), (.move (.tmp 9)), none⟩]) (.cond (.tmp 4) .skip (.seq (.region [⟨(some 10), (.bin .eql (.tmp 3) (.const (.string (⟨#[83, 84, 82, 73, 78, 71]⟩ : ByteArray)))), none⟩, ⟨(some 4), (.move (.tmp 10)), none⟩]) (.cond (.tmp 4) .skip (.seq (.region [⟨(some 11), (.bin .eql (.tmp 3) (.const (.string (⟨#[79, 67, 84, 69, 84]⟩ : ByteArray)))), none⟩, ⟨(some 4), (.move (.tmp 11)), none⟩]) (.cond (.tmp 4) .skip (.seq (.region [⟨(some 12), (.bin .eql (.tmp 3) (.const (.string (⟨#[73, 65, 53, 83, 116, 114, 105, 110, 103]⟩ : ByteArray)))), none⟩, ⟨(some 4), (.move (.tmp 12)), none⟩]) (.cond (.tmp 4) .skip (.seq (.region [⟨(some 13), (.bin .eql (.tmp 3) (.const (.string (⟨#[83, 69, 81, 85, 69, 78, 67, 69]⟩ : ByteArray)))), none⟩, ⟨(some 4), (.move (.tmp 13)), none⟩]) (.cond (.tmp 4) .skip (.seq (.region [⟨(some 14), (.bin .eql (.tmp 3) (.const (.string (⟨#[79, 70]⟩ : ByteArray)))), none⟩, ⟨(some 4), (.move (.tmp 14)), none⟩]) (.cond (.tmp 4) .skip (.seq (.region [⟨(some 15), (.bin .eql (.tmp 3) (.const (.string (⟨#[67, 72, 79, 73, 67, 69]⟩ : ByteArray)))), none⟩, ⟨(some 4), (.move (.tmp 15)), none⟩]) (.cond (.tmp 4) .skip (.seq (.region [⟨(some 16), (.bin .eql (.tmp 3) (.const (.string (⟨#[83, 73, 90, 69]⟩ : ByteArray)))), none⟩, ⟨(some 4), (.move (.tmp 16)), none⟩]) (.cond (.tmp 4) .skip (.region [⟨(some 17), (.bin .eql (.tmp 3) (.const (.string (⟨#[70, 82, 79, 77]⟩ : ByteArray)))), none⟩, ⟨(some 4), (.move (.tmp 17)), none⟩]))))))))))))))))))))))))) (.cond (.tmp 4) (.seq (.region [⟨(some 2), (.move (.const (.bool true))), none⟩]) .ret) (.seq (.seq (.region [⟨(some 19), (.bin .eql (.tmp 3) (.const (.string (⟨#[79, 80, 84, 73, 79, 78, 65, 76]⟩ : ByteArray)))), none⟩, ⟨(some 18), (.move (.tmp 19)), none⟩]) (.cond (.tmp 18) .skip (.seq (.region [⟨(some 20), (.bin .eql (.tmp 3) (.const (.string (⟨#[68, 69, 70, 65, 85, 76, 84]⟩ : ByteArray)))), none⟩, ⟨(some 18), (.move (.tmp 20)), none⟩]) (.cond (.tmp 18) .skip (.seq (.region [⟨(some 21), (.bin .eql (.tmp 3) (.const (.string (⟨#[84, 82, 85, 69]⟩ : ByteArray)))), none⟩, ⟨(some 18), (.move (.tmp 21)), none⟩]) (.cond (.tmp 18) .skip (.seq (.region [⟨(some 22), (.bin .eql (.tmp 3) (.const (.string (⟨#[70, 65, 76, 83, 69]⟩ : ByteArray)))), none⟩, ⟨(some 18), (.move (.tmp 22)), none⟩]) (.cond (.tmp 18) .skip (.seq (.region [⟨(some 23), (.bin .eql (.tmp 3) (.const (.string (⟨#[77, 73, 78]⟩ : ByteArray)))), none⟩, ⟨(some 18), (.move (.tmp 23)), none⟩]) (.cond (.tmp 18) .skip (.seq (.region [⟨(some 24), (.bin .eql (.tmp 3) (.const (.string (⟨#[77, 65, 88]⟩ : ByteArray)))), none⟩, ⟨(some 18), (.move (.tmp 24)), none⟩]) (.cond (.tmp 18) .skip (.seq (.region [⟨(some 25), (.bin .eql (.tmp 3) (.const (.string (⟨#[69, 88, 67, 69, 80, 84]⟩ : ByteArray)))), none⟩, ⟨(some 18), (.move (.tmp 25)), none⟩]) (.cond (.tmp 18) .skip (.seq (.region [⟨(some 26), (.bin .eql (.tmp 3) (.const (.string (⟨#[68, 69, 70, 73, 78, 73, 84, 73, 79, 78, 83]⟩ : ByteArray)))), none⟩, ⟨(some 18), (.move (.tmp 26)), none⟩]) (.cond (.tmp 18) .skip (.seq (.region [⟨(some 27), (.bin .eql (.tmp 3) (.const (.string (⟨#[65, 85, 84, 79, 77, 65, 84, 73, 67]⟩ : ByteArray)))), none⟩, ⟨(some 18), (.move (.tmp 27)), none⟩]) (.cond (.tmp 18) .skip (.seq (.region [⟨(some 28), (.bin .eql (.tmp 3) (.const (.string (⟨#[84, 65, 71, 83]⟩ : ByteArray)))), none⟩, ⟨(some 18), (.move (.tmp 28)), none⟩]) (.cond (.tmp 18) .skip (.seq (.region [⟨(some 29), (.bin .eql (.tmp 3) (.const (.string (⟨#[66, 69, 71, 73, 78]⟩ : ByteArray)))), none⟩, ⟨(some 18), (.move (.tmp 29)), none⟩]) (.cond (.tmp 18) .skip (.seq (.region [⟨(some 30), (.bin .eql (.tmp 3) (.const (.string (⟨#[69, 78, 68]⟩ : ByteArray)))), none⟩, ⟨(some 18), (.move (.tmp 30)), none⟩]) (.cond (.tmp 18) .skip (.region [⟨(some 31), (.bin .eql (.tmp 3) (.const (.string (⟨#[73, 77, 80, 79, 82, 84, 83]⟩ : ByteArray)))), none⟩, ⟨(some 18), (.move (.tmp 31)), none⟩]))))))))))))))))))))))))) (.cond (.tmp 18) (.seq (.region [⟨(some 2), (.move (.const (.bool true))), none⟩]) .ret) .skip)))))) (.seq (.region [⟨(some 2), (.move (.const (.bool false))), none⟩]) .ret)))
theorem c17 : cfn E0.P [] Tryd.f17 = some (ac17, [(.tmp 2)], 32) := by kernel_rfl
/-- spandrel/shape.name -/
def ac34 : ACode := (.seq (.region [⟨(some 2), (.move (.const (.bool false))), none⟩]) (.seq (.region [⟨(some 3), (.move (.tmp 0)), none⟩, ⟨(some 4), (.call (.func 57) [((.tmp 3), false)]), none⟩, ⟨(some 5), (.move (.tmp 4)), none⟩, ⟨(some 6), (.move (.tmp 0)), (some (5, true))⟩, ⟨(some 7), (.call (.func 17) [((.tmp 6), false)]), (some (5, true))⟩, ⟨(some 8), (.un .not (.tmp 7)), (some (5, true))⟩, ⟨(some 9), (.pick (.tmp 5) (.tmp 8) (.const (.bool false))), none⟩, ⟨(some 2), (.move (.tmp 9)), none⟩]) .ret))
theorem c34 : cfn E0.P [] Tryd.f34 = some (ac34, [(.tmp 2)], 10) := by kernel_rfl
/-- spandrel/shape.bare -/
def ac46 : ACode := (.seq (.region [⟨(some 1), (.box (.tmp 0)), none⟩, ⟨(some 2), (.move (.const (.bool false))), none⟩]) (.seq (.region [⟨(some 3), (.fieldAddr 1 (.tmp 1)), none⟩, ⟨(some 4), (.load none (.tmp 3)), none⟩, ⟨(some 5), (.bin .eql (.tmp 4) (.const (.int .i64 0))), none⟩, ⟨(some 6), (.move (.tmp 5)), none⟩, ⟨(some 7), (.fieldAddr 2 (.tmp 1)), (some (6, true))⟩, ⟨(some 8), (.load none (.tmp 7)), (some (6, true))⟩, ⟨(some 9), (.bin .eql (.tmp 8) (.const (.int .i64 0))), (some (6, true))⟩, ⟨(some 10), (.pick (.tmp 6) (.tmp 9) (.const (.bool false))), none⟩, ⟨(some 11), (.move (.tmp 10)), none⟩, ⟨(some 12), (.fieldAddr 3 (.tmp 1)), (some (11, true))⟩, ⟨(some 13), (.load none (.tmp 12)), (some (11, true))⟩, ⟨(some 14), (.un .not (.tmp 13)), (some (11, true))⟩, ⟨(some 15), (.pick (.tmp 11) (.tmp 14) (.const (.bool false))), none⟩, ⟨(some 16), (.move (.tmp 15)), none⟩, ⟨(some 17), (.fieldAddr 4 (.tmp 1)), (some (16, true))⟩, ⟨(some 18), (.load none (.tmp 17)), (some (16, true))⟩, ⟨(some 19), (.un .not (.tmp 18)), (some (16, true))⟩, ⟨(some 20), (.pick (.tmp 16) (.tmp 19) (.const (.bool false))), none⟩, ⟨(some 2), (.move (.tmp 20)), none⟩]) .ret))
theorem c46 : cfn E0.P [] Tryd.f46 = some (ac46, [(.tmp 2)], 21) := by kernel_rfl

set_option maxHeartbeats 2000000 in
theorem keyword_ev (s : ByteArray) (h : List AObj) : EvR E0 17 [str s] h (boolv (kwd s)) := by
  refine ev_of (fn := Tryd.f17) (hs := []) Tryd.func17 c17 (by simp) fun hcl => ?_
  simp only [ac17, aw20, List.take_succ_cons, List.take_zero, List.drop_zero, List.drop_succ_cons, List.length_map, ↓awD, awP, Nat.reduceLeDiff, Nat.reduceEqDiff, Nat.reduceAdd, Nat.zero_add, Int.cast_ofNat_Int, Int.reduceLT, Int.reduceLE, Int.reduceEq]
  repeat' (refine BrF.mk (fun hb => ?_) (fun hb => ?_) <;> (try rw [hb]) <;> simp only [aw20, aw21, aw20, List.take_succ_cons, List.take_zero, List.drop_zero, List.drop_succ_cons, List.length_map, ↓awD, awP, Nat.reduceLeDiff, Nat.reduceEqDiff, Nat.reduceAdd, Nat.zero_add, Int.cast_ofNat_Int, Int.reduceLT, Int.reduceLE, Int.reduceEq])
  all_goals (refine Fin.end hcl rfl (by first | rfl | exact (List.append_nil _).symm | (simp only [List.append_assoc]; rfl)) ⟨?_, rfl⟩)
  all_goals (simp only [kwd, kws, List.any_cons, List.any_nil, *]; rfl)
theorem name_ev (s : ByteArray) (hs : s.size < 2 ^ 60) (h : List AObj) : EvR E0 34 [str s] h (boolv (nam s)) := by
  refine ev_of (fn := Tryd.f34) (hs := []) Tryd.func34 c34 (by simp) fun hcl => ?_
  simp only [ac34, aw20, List.take_succ_cons, List.take_zero, List.drop_zero, List.drop_succ_cons, List.length_map, ↓awD, awP, Nat.reduceLeDiff, Nat.reduceEqDiff, Nat.reduceAdd, Nat.zero_add, Int.cast_ofNat_Int, Int.reduceLT, Int.reduceLE, Int.reduceEq]
  refine EvF.ret (upper_ev s h hs) ?_
  rw [show (whl s.data.toList && lt97 (pk s.data.toList 0)) = uppr s from rfl]
  simp only [aw20, List.take_succ_cons, List.take_zero, List.drop_zero, List.drop_succ_cons, List.length_map, ↓awD, awP, Nat.reduceLeDiff, Nat.reduceEqDiff, Nat.reduceAdd, Nat.zero_add, Int.cast_ofNat_Int, Int.reduceLT, Int.reduceLE, Int.reduceEq]
  repeat' (first | ((first | refine EvF.ret (keyword_ev s _) ?_ | refine EvRF.ret (keyword_ev s _) ?_); simp only [aw20, aw21, aw20, List.take_succ_cons, List.take_zero, List.drop_zero, List.drop_succ_cons, List.length_map, ↓awD, awP, Nat.reduceLeDiff, Nat.reduceEqDiff, Nat.reduceAdd, Nat.zero_add, Int.cast_ofNat_Int, Int.reduceLT, Int.reduceLE, Int.reduceEq]) | (refine BrF.mk (fun hb => ?_) (fun hb => ?_) <;> (try rw [hb]) <;> simp only [aw20, aw21, aw20, List.take_succ_cons, List.take_zero, List.drop_zero, List.drop_succ_cons, List.length_map, ↓awD, awP, Nat.reduceLeDiff, Nat.reduceEqDiff, Nat.reduceAdd, Nat.zero_add, Int.cast_ofNat_Int, Int.reduceLT, Int.reduceLE, Int.reduceEq]))
  all_goals (refine Fin.end hcl rfl (by first | rfl | exact (List.append_nil _).symm | (simp only [List.append_assoc]; rfl)) ⟨?_, rfl⟩; first | rfl | ((try simp only [dnat, decide_eq_true_eq, decide_eq_false_iff_not, List.length_eq_zero_iff, List.length_pos_iff] at *); first | (simp [*, nam]; done) | (simp [*, nam]; omega) | (clear hcl; simp [*, nam] <;> grind) | (simp [*, nam])))
theorem bare_ev (c : Con) (h : List AObj) : EvR E0 46 [conv c] h (boolv (bare c)) := by
  refine ev_of (fn := Tryd.f46) (hs := []) Tryd.func46 c46 (by simp) fun hcl => ?_
  simp only [ac46, conv_eq, aw21, aw20, List.take_succ_cons, List.take_zero, List.drop_zero, List.drop_succ_cons, List.length_map, ↓awD, awP, Nat.reduceLeDiff, Nat.reduceEqDiff, Nat.reduceAdd, Nat.zero_add, Int.cast_ofNat_Int, Int.reduceLT, Int.reduceLE, Int.reduceEq]
  repeat' (refine BrF.mk (fun hb => ?_) (fun hb => ?_) <;> (try rw [hb]) <;> simp only [aw20, aw21, aw20, List.take_succ_cons, List.take_zero, List.drop_zero, List.drop_succ_cons, List.length_map, ↓awD, awP, Nat.reduceLeDiff, Nat.reduceEqDiff, Nat.reduceAdd, Nat.zero_add, Int.cast_ofNat_Int, Int.reduceLT, Int.reduceLE, Int.reduceEq])
  all_goals (refine Fin.end hcl rfl (by first | rfl | exact (List.append_nil _).symm | (simp only [List.append_assoc]; rfl)) ⟨?_, rfl⟩; first | rfl | ((try simp only [dnat, decide_eq_true_eq, decide_eq_false_iff_not, List.length_eq_zero_iff, List.length_pos_iff] at *); first | (simp [*, bare]; done) | (simp [*, bare]; omega) | (clear hcl; simp [*, bare] <;> grind) | (simp [*, bare])))
end Go.Abs.Fr

namespace Go.Abs.Fr
open Go Go.Abs Go.Proofs
set_option linter.unusedSimpArgs false
set_option maxRecDepth 100000

/-- slices.ContainsFunc[[]spandrel/api.Con,spandrel/api.Con] -/
def ac47 : ACode := (.seq (.region [⟨(some 4), (.move (.const (.bool false))), none⟩]) (.seq (.region [⟨(some 5), (.move (.tmp 0)), none⟩, ⟨(some 6), (.move (.tmp 1)), none⟩, ⟨(some 7), (.call (.func 61) [((.tmp 5), false), ((.tmp 6), false)]), none⟩, ⟨(some 8), (.bin .geq (.tmp 7) (.const (.int .i64 0))), none⟩, ⟨(some 4), (.move (.tmp 8)), none⟩]) .ret))
theorem c47 : cfn E0.P [] Tryd.f47 = some (ac47, [(.tmp 4)], 9) := by kernel_rfl
/-- slices.ContainsFunc[[]string,string] -/
def ac51 : ACode := (.seq (.region [⟨(some 4), (.move (.const (.bool false))), none⟩]) (.seq (.region [⟨(some 5), (.move (.tmp 0)), none⟩, ⟨(some 6), (.move (.tmp 1)), none⟩, ⟨(some 7), (.call (.func 63) [((.tmp 5), false), ((.tmp 6), false)]), none⟩, ⟨(some 8), (.bin .geq (.tmp 7) (.const (.int .i64 0))), none⟩, ⟨(some 4), (.move (.tmp 8)), none⟩]) .ret))
theorem c51 : cfn E0.P [] Tryd.f51 = some (ac51, [(.tmp 4)], 9) := by kernel_rfl
/-- slices.ContainsFunc[[]spandrel/api.Part,spandrel/api.Part] -/
def ac54 : ACode := (.seq (.region [⟨(some 4), (.move (.const (.bool false))), none⟩]) (.seq (.region [⟨(some 5), (.move (.tmp 0)), none⟩, ⟨(some 6), (.move (.tmp 1)), none⟩, ⟨(some 7), (.call (.func 65) [((.tmp 5), false), ((.tmp 6), false)]), none⟩, ⟨(some 8), (.bin .geq (.tmp 7) (.const (.int .i64 0))), none⟩, ⟨(some 4), (.move (.tmp 8)), none⟩]) .ret))
theorem c54 : cfn E0.P [] Tryd.f54 = some (ac54, [(.tmp 4)], 9) := by kernel_rfl
/-- slices.IndexFunc[[]spandrel/api.Con,spandrel/api.Con] -/
def ac61 : ACode := (.seq (.region [⟨(some 4), (.move (.const (.int .i64 0))), none⟩]) (.seq (.seq (.region [⟨(some 6), (.move (.tmp 0)), none⟩, ⟨(some 7), (.len false (.tmp 6)), none⟩, ⟨(some 8), (.move (.const (.int .i64 0))), none⟩]) (.block 0 (.loop (.seq (.region [⟨(some 9), (.bin .lss (.tmp 8) (.tmp 7)), none⟩]) (.seq (.cond (.tmp 9) .skip (.exit 0)) (.seq (.block 1 (.seq (.region [⟨(some 10), (.move (.tmp 8)), none⟩, ⟨(some 5), (.move (.tmp 10)), none⟩]) (.seq (.region [⟨(some 11), (.move (.tmp 1)), none⟩, ⟨(some 12), (.move (.tmp 0)), none⟩, ⟨(some 13), (.move (.tmp 5)), none⟩, ⟨(some 14), (.indexAddr 6 (.tmp 12) (.tmp 13)), none⟩, ⟨(some 15), (.load (some 6) (.tmp 14)), none⟩, ⟨(some 16), (.call (.tmp 11) [((.tmp 15), false)]), none⟩]) (.cond (.tmp 16) (.seq (.region [⟨(some 17), (.move (.tmp 5)), none⟩, ⟨(some 4), (.move (.tmp 17)), none⟩]) .ret) .skip)))) (.region [⟨(some 18), (.bin .add (.tmp 8) (.const (.int .i64 1))), none⟩, ⟨(some 8), (.move (.tmp 18)), none⟩]))))))) (.seq (.region [⟨(some 4), (.move (.const (.int .i64 (-1)))), none⟩]) .ret)))
theorem c61 : cfn E0.P [] Tryd.f61 = some (ac61, [(.tmp 4)], 19) := by kernel_rfl
/-- slices.IndexFunc[[]string,string] -/
def ac63 : ACode := (.seq (.region [⟨(some 4), (.move (.const (.int .i64 0))), none⟩]) (.seq (.seq (.region [⟨(some 6), (.move (.tmp 0)), none⟩, ⟨(some 7), (.len false (.tmp 6)), none⟩, ⟨(some 8), (.move (.const (.int .i64 0))), none⟩]) (.block 0 (.loop (.seq (.region [⟨(some 9), (.bin .lss (.tmp 8) (.tmp 7)), none⟩]) (.seq (.cond (.tmp 9) .skip (.exit 0)) (.seq (.block 1 (.seq (.region [⟨(some 10), (.move (.tmp 8)), none⟩, ⟨(some 5), (.move (.tmp 10)), none⟩]) (.seq (.region [⟨(some 11), (.move (.tmp 1)), none⟩, ⟨(some 12), (.move (.tmp 0)), none⟩, ⟨(some 13), (.move (.tmp 5)), none⟩, ⟨(some 14), (.indexAddr 1 (.tmp 12) (.tmp 13)), none⟩, ⟨(some 15), (.load none (.tmp 14)), none⟩, ⟨(some 16), (.call (.tmp 11) [((.tmp 15), false)]), none⟩]) (.cond (.tmp 16) (.seq (.region [⟨(some 17), (.move (.tmp 5)), none⟩, ⟨(some 4), (.move (.tmp 17)), none⟩]) .ret) .skip)))) (.region [⟨(some 18), (.bin .add (.tmp 8) (.const (.int .i64 1))), none⟩, ⟨(some 8), (.move (.tmp 18)), none⟩]))))))) (.seq (.region [⟨(some 4), (.move (.const (.int .i64 (-1)))), none⟩]) .ret)))
theorem c63 : cfn E0.P [] Tryd.f63 = some (ac63, [(.tmp 4)], 19) := by kernel_rfl
/-- slices.IndexFunc[[]spandrel/api.Part,spandrel/api.Part] -/
def ac65 : ACode := (.seq (.region [⟨(some 4), (.move (.const (.int .i64 0))), none⟩]) (.seq (.seq (.region [⟨(some 6), (.move (.tmp 0)), none⟩, ⟨(some 7), (.len false (.tmp 6)), none⟩, ⟨(some 8), (.move (.const (.int .i64 0))), none⟩]) (.block 0 (.loop (.seq (.region [⟨(some 9), (.bin .lss (.tmp 8) (.tmp 7)), none⟩]) (.seq (.cond (.tmp 9) .skip (.exit 0)) (.seq (.block 1 (.seq (.region [⟨(some 10), (.move (.tmp 8)), none⟩, ⟨(some 5), (.move (.tmp 10)), none⟩]) (.seq (.region [⟨(some 11), (.move (.tmp 1)), none⟩, ⟨(some 12), (.move (.tmp 0)), none⟩, ⟨(some 13), (.move (.tmp 5)), none⟩, ⟨(some 14), (.indexAddr 18 (.tmp 12) (.tmp 13)), none⟩, ⟨(some 15), (.load (some 18) (.tmp 14)), none⟩, ⟨(some 16), (.call (.tmp 11) [((.tmp 15), false)]), none⟩]) (.cond (.tmp 16) (.seq (.region [⟨(some 17), (.move (.tmp 5)), none⟩, ⟨(some 4), (.move (.tmp 17)), none⟩]) .ret) .skip)))) (.region [⟨(some 18), (.bin .add (.tmp 8) (.const (.int .i64 1))), none⟩, ⟨(some 8), (.move (.tmp 18)), none⟩]))))))) (.seq (.region [⟨(some 4), (.move (.const (.int .i64 (-1)))), none⟩]) .ret)))
theorem c65 : cfn E0.P [] Tryd.f65 = some (ac65, [(.tmp 4)], 19) := by kernel_rfl

theorem con_idx (l : List Con) (f : FuncId) (caps : List AV) (p : Con → Bool) (h : List AObj) (hl : l.length < 2 ^ 60) (hp : ∀ s, s ∈ l → EvR E0 f (conv s :: caps.map AV.strip) h (boolv (p s))) :
    EvR E0 61 [.sl .unk (l.map conv), .fn (.func f) [] caps] h (i64 (idx p l 0)) := by
  refine ev_of (fn := Tryd.f61) (hs := []) Tryd.func61 c61 (by simp) fun hcl => ?_
  generalize hR : idx p l 0 = R
  simp only [ac61, aw20, List.take_succ_cons, List.take_zero, List.drop_zero, List.drop_succ_cons, List.length_map, ↓awD, awP, Nat.reduceLeDiff, Nat.reduceEqDiff, Nat.reduceAdd, Nat.zero_add, Int.cast_ofNat_Int, Int.reduceLT, Int.reduceLE, Int.reduceEq]
  refine LoopF.list l hl (γ := Unit) (fun i _ => ⟨[(0, .sl .unk (l.map conv)), (1, .fn (.func f) [] caps), (6, .sl .unk (l.map conv)), (7, i64 l.length), (8, i64 i)], h⟩) (fun i _ => idx p (l.drop i) i = R) () (by simpa using hR) (weak_of rfl (by simp [look])) ?_ ?_
  · rintro i a _ ha hv hi e1 w3
    rw [drop_get ha] at hv
    unfold idx at hv
    have hga := map_get conv l i a ha
    have hpa := hp a (List.mem_of_getElem? ha)
    simp only [conv_eq] at hpa
    simp only [e1, w3, aw20, List.take_succ_cons, List.take_zero, List.drop_zero, List.drop_succ_cons, List.length_map, ↓awD, awP, Nat.reduceLeDiff, Nat.reduceEqDiff, Nat.reduceAdd, Nat.zero_add, Int.cast_ofNat_Int, Int.reduceLT, Int.reduceLE, Int.reduceEq]
    repeat' (first | ((first | refine Need.mk (by first | (first | omega | (simp only [decide_eq_true_eq, decide_eq_false_iff_not, Bool.and_eq_true, Bool.not_eq_true', Bool.not_eq_false', List.length_map] at *; omega) | (simp; omega)) | (constructor <;> (first | omega | (simp only [decide_eq_true_eq, decide_eq_false_iff_not, Bool.and_eq_true, Bool.not_eq_true', Bool.not_eq_false', List.length_map] at *; omega) | (simp; omega)))) (Elem.recs hga (by first | (rw [conv_eq]; exact ⟨rfl, rfl⟩) | exact ⟨rfl, rfl⟩) ?_) | refine Elem.recs hga (by first | (rw [conv_eq]; exact ⟨rfl, rfl⟩) | exact ⟨rfl, rfl⟩) ?_); simp only [conv_eq, w3, aw21, aw20, List.take_succ_cons, List.take_zero, List.drop_zero, List.drop_succ_cons, List.length_map, ↓awD, awP, Nat.reduceLeDiff, Nat.reduceEqDiff, Nat.reduceAdd, Nat.zero_add, Int.cast_ofNat_Int, Int.reduceLT, Int.reduceLE, Int.reduceEq]) | ((first | refine EvF.ret (hpa) ?_ | refine EvRF.ret (hpa) ?_); simp only [w3, aw21, aw20, List.take_succ_cons, List.take_zero, List.drop_zero, List.drop_succ_cons, List.length_map, ↓awD, awP, Nat.reduceLeDiff, Nat.reduceEqDiff, Nat.reduceAdd, Nat.zero_add, Int.cast_ofNat_Int, Int.reduceLT, Int.reduceLE, Int.reduceEq]) | (refine BrF.mk (fun hb => ?_) (fun hb => ?_) <;> (try rw [hb]) <;> simp only [w3, aw21, aw20, List.take_succ_cons, List.take_zero, List.drop_zero, List.drop_succ_cons, List.length_map, ↓awD, awP, Nat.reduceLeDiff, Nat.reduceEqDiff, Nat.reduceAdd, Nat.zero_add, Int.cast_ofNat_Int, Int.reduceLT, Int.reduceLE, Int.reduceEq]))
    all_goals (simp only [*, if_true, if_false, Bool.false_eq_true] at hv)
    · subst hv; exact Fin.end hcl rfl (by first | rfl | exact (List.append_nil _).symm | (simp only [List.append_assoc]; rfl)) ⟨rfl, rfl⟩
    · exact ⟨(i + 1, ()), ⟨hi, hv⟩, by simp only; omega, weak_of (rfl) (by simp [look])⟩
  · rintro _ hv e1
    rw [drop_len] at hv
    unfold idx at hv
    subst hv
    simp only [e1, aw20, List.take_succ_cons, List.take_zero, List.drop_zero, List.drop_succ_cons, List.length_map, ↓awD, awP, Nat.reduceLeDiff, Nat.reduceEqDiff, Nat.reduceAdd, Nat.zero_add, Int.cast_ofNat_Int, Int.reduceLT, Int.reduceLE, Int.reduceEq]
    exact Fin.end hcl rfl (by first | rfl | exact (List.append_nil _).symm | (simp only [List.append_assoc]; rfl)) ⟨rfl, rfl⟩
theorem con_any (l : List Con) (f : FuncId) (caps : List AV) (p : Con → Bool) (h : List AObj) (hl : l.length < 2 ^ 60) (hp : ∀ s, s ∈ l → EvR E0 f (conv s :: caps.map AV.strip) h (boolv (p s))) :
    EvR E0 47 [.sl .unk (l.map conv), .fn (.func f) [] caps] h (boolv (l.any p)) := by
  refine ev_of (fn := Tryd.f47) (hs := []) Tryd.func47 c47 (by simp) fun hcl => ?_
  simp only [ac47, ↓awD, awP, Nat.reduceLeDiff, Nat.reduceEqDiff, Nat.reduceAdd, Nat.zero_add, Int.cast_ofNat_Int, Int.reduceLT, Int.reduceLE, Int.reduceEq]
  refine EvF.ret (con_idx l f caps p h hl hp) ?_
  simp only [idx_any, ↓awD, awP, Nat.reduceLeDiff, Nat.reduceEqDiff, Nat.reduceAdd, Nat.zero_add, Int.cast_ofNat_Int, Int.reduceLT, Int.reduceLE, Int.reduceEq]
  exact Fin.same0 hcl rfl ⟨rfl, rfl⟩

theorem str_idx (l : List ByteArray) (f : FuncId) (caps : List AV) (p : ByteArray → Bool) (h : List AObj) (hl : l.length < 2 ^ 60) (hp : ∀ s, s ∈ l → EvR E0 f (str s :: caps.map AV.strip) h (boolv (p s))) :
    EvR E0 63 [.sl .unk (l.map str), .fn (.func f) [] caps] h (i64 (idx p l 0)) := by
  refine ev_of (fn := Tryd.f63) (hs := []) Tryd.func63 c63 (by simp) fun hcl => ?_
  generalize hR : idx p l 0 = R
  simp only [ac63, aw20, List.take_succ_cons, List.take_zero, List.drop_zero, List.drop_succ_cons, List.length_map, ↓awD, awP, Nat.reduceLeDiff, Nat.reduceEqDiff, Nat.reduceAdd, Nat.zero_add, Int.cast_ofNat_Int, Int.reduceLT, Int.reduceLE, Int.reduceEq]
  refine LoopF.list l hl (γ := Unit) (fun i _ => ⟨[(0, .sl .unk (l.map str)), (1, .fn (.func f) [] caps), (6, .sl .unk (l.map str)), (7, i64 l.length), (8, i64 i)], h⟩) (fun i _ => idx p (l.drop i) i = R) () (by simpa using hR) (weak_of rfl (by simp [look])) ?_ ?_
  · rintro i a _ ha hv hi e1 w3
    rw [drop_get ha] at hv
    unfold idx at hv
    have hga := map_get str l i a ha
    have hpa := hp a (List.mem_of_getElem? ha)
    simp only [str] at hpa
    simp only [e1, w3, aw20, List.take_succ_cons, List.take_zero, List.drop_zero, List.drop_succ_cons, List.length_map, ↓awD, awP, Nat.reduceLeDiff, Nat.reduceEqDiff, Nat.reduceAdd, Nat.zero_add, Int.cast_ofNat_Int, Int.reduceLT, Int.reduceLE, Int.reduceEq]
    repeat' (first | ((first | refine Need.mk (by first | (first | omega | (simp only [decide_eq_true_eq, decide_eq_false_iff_not, Bool.and_eq_true, Bool.not_eq_true', Bool.not_eq_false', List.length_map] at *; omega) | (simp; omega)) | (constructor <;> (first | omega | (simp only [decide_eq_true_eq, decide_eq_false_iff_not, Bool.and_eq_true, Bool.not_eq_true', Bool.not_eq_false', List.length_map] at *; omega) | (simp; omega)))) (Elem.recs hga (by first | (rw [str]; exact ⟨rfl, rfl⟩) | exact ⟨rfl, rfl⟩) ?_) | refine Elem.recs hga (by first | (rw [str]; exact ⟨rfl, rfl⟩) | exact ⟨rfl, rfl⟩) ?_); simp only [str, w3, aw21, aw20, List.take_succ_cons, List.take_zero, List.drop_zero, List.drop_succ_cons, List.length_map, ↓awD, awP, Nat.reduceLeDiff, Nat.reduceEqDiff, Nat.reduceAdd, Nat.zero_add, Int.cast_ofNat_Int, Int.reduceLT, Int.reduceLE, Int.reduceEq]) | ((first | refine EvF.ret (hpa) ?_ | refine EvRF.ret (hpa) ?_); simp only [w3, aw21, aw20, List.take_succ_cons, List.take_zero, List.drop_zero, List.drop_succ_cons, List.length_map, ↓awD, awP, Nat.reduceLeDiff, Nat.reduceEqDiff, Nat.reduceAdd, Nat.zero_add, Int.cast_ofNat_Int, Int.reduceLT, Int.reduceLE, Int.reduceEq]) | (refine BrF.mk (fun hb => ?_) (fun hb => ?_) <;> (try rw [hb]) <;> simp only [w3, aw21, aw20, List.take_succ_cons, List.take_zero, List.drop_zero, List.drop_succ_cons, List.length_map, ↓awD, awP, Nat.reduceLeDiff, Nat.reduceEqDiff, Nat.reduceAdd, Nat.zero_add, Int.cast_ofNat_Int, Int.reduceLT, Int.reduceLE, Int.reduceEq]))
    all_goals (simp only [*, if_true, if_false, Bool.false_eq_true] at hv)
    · subst hv; exact Fin.end hcl rfl (by first | rfl | exact (List.append_nil _).symm | (simp only [List.append_assoc]; rfl)) ⟨rfl, rfl⟩
    · exact ⟨(i + 1, ()), ⟨hi, hv⟩, by simp only; omega, weak_of (rfl) (by simp [look])⟩
  · rintro _ hv e1
    rw [drop_len] at hv
    unfold idx at hv
    subst hv
    simp only [e1, aw20, List.take_succ_cons, List.take_zero, List.drop_zero, List.drop_succ_cons, List.length_map, ↓awD, awP, Nat.reduceLeDiff, Nat.reduceEqDiff, Nat.reduceAdd, Nat.zero_add, Int.cast_ofNat_Int, Int.reduceLT, Int.reduceLE, Int.reduceEq]
    exact Fin.end hcl rfl (by first | rfl | exact (List.append_nil _).symm | (simp only [List.append_assoc]; rfl)) ⟨rfl, rfl⟩
theorem str_any (l : List ByteArray) (f : FuncId) (caps : List AV) (p : ByteArray → Bool) (h : List AObj) (hl : l.length < 2 ^ 60) (hp : ∀ s, s ∈ l → EvR E0 f (str s :: caps.map AV.strip) h (boolv (p s))) :
    EvR E0 51 [.sl .unk (l.map str), .fn (.func f) [] caps] h (boolv (l.any p)) := by
  refine ev_of (fn := Tryd.f51) (hs := []) Tryd.func51 c51 (by simp) fun hcl => ?_
  simp only [ac51, ↓awD, awP, Nat.reduceLeDiff, Nat.reduceEqDiff, Nat.reduceAdd, Nat.zero_add, Int.cast_ofNat_Int, Int.reduceLT, Int.reduceLE, Int.reduceEq]
  refine EvF.ret (str_idx l f caps p h hl hp) ?_
  simp only [idx_any, ↓awD, awP, Nat.reduceLeDiff, Nat.reduceEqDiff, Nat.reduceAdd, Nat.zero_add, Int.cast_ofNat_Int, Int.reduceLT, Int.reduceLE, Int.reduceEq]
  exact Fin.same0 hcl rfl ⟨rfl, rfl⟩

theorem prt_idx (l : List Prt) (f : FuncId) (caps : List AV) (p : Prt → Bool) (h : List AObj) (hl : l.length < 2 ^ 60) (hp : ∀ s, s ∈ l → EvR E0 f (prtv s :: caps.map AV.strip) h (boolv (p s))) :
    EvR E0 65 [.sl .unk (l.map prtv), .fn (.func f) [] caps] h (i64 (idx p l 0)) := by
  refine ev_of (fn := Tryd.f65) (hs := []) Tryd.func65 c65 (by simp) fun hcl => ?_
  generalize hR : idx p l 0 = R
  simp only [ac65, aw20, List.take_succ_cons, List.take_zero, List.drop_zero, List.drop_succ_cons, List.length_map, ↓awD, awP, Nat.reduceLeDiff, Nat.reduceEqDiff, Nat.reduceAdd, Nat.zero_add, Int.cast_ofNat_Int, Int.reduceLT, Int.reduceLE, Int.reduceEq]
  refine LoopF.list l hl (γ := Unit) (fun i _ => ⟨[(0, .sl .unk (l.map prtv)), (1, .fn (.func f) [] caps), (6, .sl .unk (l.map prtv)), (7, i64 l.length), (8, i64 i)], h⟩) (fun i _ => idx p (l.drop i) i = R) () (by simpa using hR) (weak_of rfl (by simp [look])) ?_ ?_
  · rintro i a _ ha hv hi e1 w3
    rw [drop_get ha] at hv
    unfold idx at hv
    have hga := map_get prtv l i a ha
    have hpa := hp a (List.mem_of_getElem? ha)
    simp only [prtv_eq] at hpa
    simp only [e1, w3, aw20, List.take_succ_cons, List.take_zero, List.drop_zero, List.drop_succ_cons, List.length_map, ↓awD, awP, Nat.reduceLeDiff, Nat.reduceEqDiff, Nat.reduceAdd, Nat.zero_add, Int.cast_ofNat_Int, Int.reduceLT, Int.reduceLE, Int.reduceEq]
    repeat' (first | ((first | refine Need.mk (by first | (first | omega | (simp only [decide_eq_true_eq, decide_eq_false_iff_not, Bool.and_eq_true, Bool.not_eq_true', Bool.not_eq_false', List.length_map] at *; omega) | (simp; omega)) | (constructor <;> (first | omega | (simp only [decide_eq_true_eq, decide_eq_false_iff_not, Bool.and_eq_true, Bool.not_eq_true', Bool.not_eq_false', List.length_map] at *; omega) | (simp; omega)))) (Elem.recs hga (by first | (rw [prtv_eq]; exact ⟨rfl, rfl⟩) | exact ⟨rfl, rfl⟩) ?_) | refine Elem.recs hga (by first | (rw [prtv_eq]; exact ⟨rfl, rfl⟩) | exact ⟨rfl, rfl⟩) ?_); simp only [prtv_eq, w3, aw21, aw20, List.take_succ_cons, List.take_zero, List.drop_zero, List.drop_succ_cons, List.length_map, ↓awD, awP, Nat.reduceLeDiff, Nat.reduceEqDiff, Nat.reduceAdd, Nat.zero_add, Int.cast_ofNat_Int, Int.reduceLT, Int.reduceLE, Int.reduceEq]) | ((first | refine EvF.ret (hpa) ?_ | refine EvRF.ret (hpa) ?_); simp only [w3, aw21, aw20, List.take_succ_cons, List.take_zero, List.drop_zero, List.drop_succ_cons, List.length_map, ↓awD, awP, Nat.reduceLeDiff, Nat.reduceEqDiff, Nat.reduceAdd, Nat.zero_add, Int.cast_ofNat_Int, Int.reduceLT, Int.reduceLE, Int.reduceEq]) | (refine BrF.mk (fun hb => ?_) (fun hb => ?_) <;> (try rw [hb]) <;> simp only [w3, aw21, aw20, List.take_succ_cons, List.take_zero, List.drop_zero, List.drop_succ_cons, List.length_map, ↓awD, awP, Nat.reduceLeDiff, Nat.reduceEqDiff, Nat.reduceAdd, Nat.zero_add, Int.cast_ofNat_Int, Int.reduceLT, Int.reduceLE, Int.reduceEq]))
    all_goals (simp only [*, if_true, if_false, Bool.false_eq_true] at hv)
    · subst hv; exact Fin.end hcl rfl (by first | rfl | exact (List.append_nil _).symm | (simp only [List.append_assoc]; rfl)) ⟨rfl, rfl⟩
    · exact ⟨(i + 1, ()), ⟨hi, hv⟩, by simp only; omega, weak_of (rfl) (by simp [look])⟩
  · rintro _ hv e1
    rw [drop_len] at hv
    unfold idx at hv
    subst hv
    simp only [e1, aw20, List.take_succ_cons, List.take_zero, List.drop_zero, List.drop_succ_cons, List.length_map, ↓awD, awP, Nat.reduceLeDiff, Nat.reduceEqDiff, Nat.reduceAdd, Nat.zero_add, Int.cast_ofNat_Int, Int.reduceLT, Int.reduceLE, Int.reduceEq]
    exact Fin.end hcl rfl (by first | rfl | exact (List.append_nil _).symm | (simp only [List.append_assoc]; rfl)) ⟨rfl, rfl⟩
theorem prt_any (l : List Prt) (f : FuncId) (caps : List AV) (p : Prt → Bool) (h : List AObj) (hl : l.length < 2 ^ 60) (hp : ∀ s, s ∈ l → EvR E0 f (prtv s :: caps.map AV.strip) h (boolv (p s))) :
    EvR E0 54 [.sl .unk (l.map prtv), .fn (.func f) [] caps] h (boolv (l.any p)) := by
  refine ev_of (fn := Tryd.f54) (hs := []) Tryd.func54 c54 (by simp) fun hcl => ?_
  simp only [ac54, ↓awD, awP, Nat.reduceLeDiff, Nat.reduceEqDiff, Nat.reduceAdd, Nat.zero_add, Int.cast_ofNat_Int, Int.reduceLT, Int.reduceLE, Int.reduceEq]
  refine EvF.ret (prt_idx l f caps p h hl hp) ?_
  simp only [idx_any, ↓awD, awP, Nat.reduceLeDiff, Nat.reduceEqDiff, Nat.reduceAdd, Nat.zero_add, Int.cast_ofNat_Int, Int.reduceLT, Int.reduceLE, Int.reduceEq]
  exact Fin.same0 hcl rfl ⟨rfl, rfl⟩
end Go.Abs.Fr

namespace Go.Abs.Fr
open Go Go.Abs Go.Proofs
set_option linter.unusedSimpArgs false
set_option maxRecDepth 100000

/-- spandrel/shape.con -/
def ac25 : ACode := (.seq (.region [⟨(some 2), (.box (.tmp 0)), none⟩, ⟨(some 3), (.box (.tmp 1)), none⟩, ⟨(some 4), (.move (.const (.bool false))), none⟩]) (.seq (.seq (.region [⟨(some 5), (.load none (.tmp 3)), none⟩, ⟨(some 6), (.bin .eql (.tmp 5) (.const (.int .i64 0))), none⟩]) (.cond (.tmp 6) (.seq (.region [⟨(some 4), (.move (.const (.bool false))), none⟩]) .ret) .skip)) (.seq (.seq (.region [⟨(some 7), (.fieldAddr 0 (.tmp 2)), none⟩, ⟨(some 8), (.load none (.tmp 7)), none⟩]) (.block 0 (.seq (.region [⟨(some 10), (.bin .eql (.tmp 8) (.const (.int .i64 0))), none⟩, ⟨(some 9), (.move (.tmp 10)), none⟩]) (.cond (.tmp 9) (.seq (.region [⟨(some 11), (.load (some 6) (.tmp 2)), none⟩, ⟨(some 12), (.call (.func 46) [((.tmp 11), false)]), none⟩, ⟨(some 13), (.move (.tmp 12)), none⟩, ⟨(some 14), (.fieldAddr 5 (.tmp 2)), (some (13, true))⟩, ⟨(some 15), (.load none (.tmp 14)), (some (13, true))⟩, ⟨(some 16), (.len false (.tmp 15)), (some (13, true))⟩, ⟨(some 17), (.bin .eql (.tmp 16) (.const (.int .i64 0))), (some (13, true))⟩, ⟨(some 18), (.pick (.tmp 13) (.tmp 17) (.const (.bool false))), none⟩, ⟨(some 4), (.move (.tmp 18)), none⟩]) .ret) (.seq (.region [⟨(some 20), (.bin .eql (.tmp 8) (.const (.int .i64 1))), none⟩, ⟨(some 19), (.move (.tmp 20)), none⟩]) (.cond (.tmp 19) (.seq (.region [⟨(some 21), (.fieldAddr 5 (.tmp 2)), none⟩, ⟨(some 22), (.load none (.tmp 21)), none⟩, ⟨(some 23), (.len false (.tmp 22)), none⟩, ⟨(some 24), (.bin .eql (.tmp 23) (.const (.int .i64 0))), none⟩, ⟨(some 25), (.move (.tmp 24)), none⟩, ⟨(some 26), (.fieldAddr 1 (.tmp 2)), (some (25, true))⟩, ⟨(some 27), (.load none (.tmp 26)), (some (25, true))⟩, ⟨(some 28), (.bin .neq (.tmp 27) (.const (.int .i64 (-9223372036854775808)))), (some (25, true))⟩, ⟨(some 29), (.pick (.tmp 25) (.tmp 28) (.const (.bool false))), none⟩, ⟨(some 30), (.move (.tmp 29)), none⟩, ⟨(some 31), (.fieldAddr 2 (.tmp 2)), (some (30, true))⟩, ⟨(some 32), (.load none (.tmp 31)), (some (30, true))⟩, ⟨(some 33), (.bin .neq (.tmp 32) (.const (.int .i64 (-9223372036854775808)))), (some (30, true))⟩, ⟨(some 34), (.pick (.tmp 30) (.tmp 33) (.const (.bool false))), none⟩, ⟨(some 35), (.move (.tmp 34)), none⟩, ⟨(some 36), (.fieldAddr 3 (.tmp 2)), (some (35, true))⟩, ⟨(some 37), (.load none (.tmp 36)), (some (35, true))⟩, ⟨(some 38), (.un .not (.tmp 37)), (some (35, true))⟩, ⟨(some 39), (.move (.tmp 38)), (some (35, true))⟩, ⟨(some 40), (.fieldAddr 1 (.tmp 2)), (some (39, false))⟩, ⟨(some 41), (.load none (.tmp 40)), (some (39, false))⟩, ⟨(some 42), (.bin .eql (.tmp 41) (.const (.int .i64 0))), (some (39, false))⟩, ⟨(some 43), (.pick (.tmp 39) (.const (.bool true)) (.tmp 42)), (some (35, true))⟩, ⟨(some 44), (.pick (.tmp 35) (.tmp 43) (.const (.bool false))), none⟩, ⟨(some 45), (.move (.tmp 44)), none⟩, ⟨(some 46), (.fieldAddr 4 (.tmp 2)), (some (45, true))⟩, ⟨(some 47), (.load none (.tmp 46)), (some (45, true))⟩, ⟨(some 48), (.un .not (.tmp 47)), (some (45, true))⟩, ⟨(some 49), (.move (.tmp 48)), (some (45, true))⟩, ⟨(some 50), (.fieldAddr 2 (.tmp 2)), (some (49, false))⟩, ⟨(some 51), (.load none (.tmp 50)), (some (49, false))⟩, ⟨(some 52), (.bin .eql (.tmp 51) (.const (.int .i64 0))), (some (49, false))⟩, ⟨(some 53), (.pick (.tmp 49) (.const (.bool true)) (.tmp 52)), (some (45, true))⟩, ⟨(some 54), (.pick (.tmp 45) (.tmp 53) (.const (.bool false))), none⟩, ⟨(some 4), (.move (.tmp 54)), none⟩]) .ret) (.seq (.region [⟨(some 56), (.bin .eql (.tmp 8) (.const (.int .i64 4))), none⟩, ⟨(some 55), (.move (.tmp 56)), none⟩]) (.cond (.tmp 55) (.seq (.region [⟨(some 57), (.fieldAddr 5 (.tmp 2)), none⟩, ⟨(some 58), (.load none (.tmp 57)), none⟩, ⟨(some 59), (.len false (.tmp 58)), none⟩, ⟨(some 60), (.bin .neq (.tmp 59) (.const (.int .i64 2))), none⟩]) (.cond (.tmp 60) (.seq (.region [⟨(some 4), (.move (.const (.bool false))), none⟩]) .ret) .skip)) (.seq (.seq (.region [⟨(some 62), (.bin .eql (.tmp 8) (.const (.int .i64 2))), none⟩, ⟨(some 61), (.move (.tmp 62)), none⟩]) (.cond (.tmp 61) .skip (.region [⟨(some 63), (.bin .eql (.tmp 8) (.const (.int .i64 3))), none⟩, ⟨(some 61), (.move (.tmp 63)), none⟩]))) (.cond (.tmp 61) (.seq (.region [⟨(some 64), (.fieldAddr 5 (.tmp 2)), none⟩, ⟨(some 65), (.load none (.tmp 64)), none⟩, ⟨(some 66), (.len false (.tmp 65)), none⟩, ⟨(some 67), (.bin .lss (.tmp 66) (.const (.int .i64 2))), none⟩]) (.cond (.tmp 67) (.seq (.region [⟨(some 4), (.move (.const (.bool false))), none⟩]) .ret) .skip)) (.seq (.region [⟨(some 4), (.move (.const (.bool false))), none⟩]) .ret))))))))))) (.seq (.region [⟨(some 68), (.load (some 6) (.tmp 2)), none⟩, ⟨(some 69), (.call (.func 46) [((.tmp 68), false)]), none⟩, ⟨(some 70), (.move (.tmp 69)), none⟩, ⟨(some 71), (.fieldAddr 5 (.tmp 2)), (some (70, true))⟩, ⟨(some 72), (.load none (.tmp 71)), (some (70, true))⟩, ⟨(some 73), (.mkFunc (.func 48) [] [(.tmp 3)]), (some (70, true))⟩, ⟨(some 74), (.call (.func 47) [((.tmp 72), false), ((.tmp 73), false)]), (some (70, true))⟩, ⟨(some 75), (.un .not (.tmp 74)), (some (70, true))⟩, ⟨(some 76), (.pick (.tmp 70) (.tmp 75) (.const (.bool false))), none⟩, ⟨(some 4), (.move (.tmp 76)), none⟩]) .ret))))
theorem c25 : cfn E0.P [] Tryd.f25 = some (ac25, [(.tmp 4)], 77) := by kernel_rfl
/-- spandrel/shape.con$1 -/
def ac48 : ACode := (.seq (.region [⟨(some 2), (.box (.tmp 0)), none⟩, ⟨(some 3), (.move (.const (.bool false))), none⟩]) (.seq (.region [⟨(some 4), (.fieldAddr 0 (.tmp 2)), none⟩, ⟨(some 5), (.load none (.tmp 4)), none⟩, ⟨(some 6), (.bin .eql (.tmp 5) (.const (.int .i64 0))), none⟩, ⟨(some 7), (.move (.tmp 6)), none⟩, ⟨(some 8), (.load (some 6) (.tmp 2)), (some (7, false))⟩, ⟨(some 9), (.load none (.tmp 1)), (some (7, false))⟩, ⟨(some 10), (.bin .sub (.tmp 9) (.const (.int .i64 1))), (some (7, false))⟩, ⟨(some 11), (.call (.func 25) [((.tmp 8), false), ((.tmp 10), false)]), (some (7, false))⟩, ⟨(some 12), (.un .not (.tmp 11)), (some (7, false))⟩, ⟨(some 13), (.pick (.tmp 7) (.const (.bool true)) (.tmp 12)), none⟩, ⟨(some 3), (.move (.tmp 13)), none⟩]) .ret))
theorem c48 : cfn E0.P [] Tryd.f48 = some (ac48, [(.tmp 3)], 14) := by kernel_rfl

abbrev box1 (n : Int) : AObj := .cells [i64 n]
theorem dec_room (r : Nat) (h : r < 2 ^ 60) : IntKind.i64.wrap (((r + 1 : Nat) : Int) - 1) = (r : Int) := by rw [wrap_i64] <;> omega
theorem room_ne (r : Nat) : decide (((r + 1 : Nat) : Int) = 0) = false := by rw [decide_eq_false_iff_not]; omega

theorem room_0 : decide (((0 : Nat) : Int) = 0) = true := rfl
theorem con1_ev (r : Nat) (hr : r < 2 ^ 60) (ih : ∀ (c : Con) (h : List AObj), mxC c ≤ 2 ^ 48 → EvR E0 25 [conv c, i64 r] h (boolv (okCon r c)))
    (x : Con) (hx : mxC x ≤ 2 ^ 48) (h : List AObj) (id : Nat) (hid : h[id]? = some (box1 (r + 1 : Nat))) : EvR E0 48 [conv x, .ref id 0] h (boolv (decide (x.op = 0) || !okCon r x)) := by
  refine ev_of (fn := Tryd.f48) (hs := []) Tryd.func48 c48 (by simp) fun hcl => ?_
  have hw := dec_room r hr
  have hid' := fun o => app_get hid [o]
  have ihx := fun h => ih x h hx
  simp only [conv_eq] at ihx
  simp only [ac48, conv_eq, hid', hw, aw20, List.take_succ_cons, List.take_zero, List.drop_zero, List.drop_succ_cons, List.length_map, ↓awD, awP, Nat.reduceLeDiff, Nat.reduceEqDiff, Nat.reduceAdd, Nat.zero_add, Int.cast_ofNat_Int, Int.reduceLT, Int.reduceLE, Int.reduceEq]
  repeat' (first | ((first | refine EvF.ret (ihx _) ?_ | refine EvRF.ret (ihx _) ?_); simp only [hw, aw21, aw20, List.take_succ_cons, List.take_zero, List.drop_zero, List.drop_succ_cons, List.length_map, ↓awD, awP, Nat.reduceLeDiff, Nat.reduceEqDiff, Nat.reduceAdd, Nat.zero_add, Int.cast_ofNat_Int, Int.reduceLT, Int.reduceLE, Int.reduceEq]) | (refine BrF.mk (fun hb => ?_) (fun hb => ?_) <;> (try rw [hb]) <;> simp only [hid', hw, aw21, aw20, List.take_succ_cons, List.take_zero, List.drop_zero, List.drop_succ_cons, List.length_map, ↓awD, awP, Nat.reduceLeDiff, Nat.reduceEqDiff, Nat.reduceAdd, Nat.zero_add, Int.cast_ofNat_Int, Int.reduceLT, Int.reduceLE, Int.reduceEq]))
  all_goals (refine Fin.end hcl rfl (by first | rfl | exact (List.append_nil _).symm | (simp only [List.append_assoc]; rfl)) ⟨?_, rfl⟩; first | rfl | ((try simp only [dnat, decide_eq_true_eq, decide_eq_false_iff_not, List.length_eq_zero_iff, List.length_pos_iff] at *); first | (simp [*, hw]; done) | (simp [*, hw]; omega) | (clear hcl; simp [*, hw] <;> grind) | (simp [*, hw])))

set_option maxHeartbeats 2000000 in
theorem con_ev : ∀ (r : Nat), r < 2 ^ 60 → ∀ (c : Con) (h : List AObj), mxC c ≤ 2 ^ 48 → EvR E0 25 [conv c, i64 r] h (boolv (okCon r c)) := by
  intro r
  induction r with
  | zero =>
    intro _ c h _
    refine ev_of (fn := Tryd.f25) (hs := []) Tryd.func25 c25 (by simp) fun hcl => ?_
    simp only [ac25, conv_eq, room_0, aw20, List.take_succ_cons, List.take_zero, List.drop_zero, List.drop_succ_cons, List.length_map, ↓awD, awP, Nat.reduceLeDiff, Nat.reduceEqDiff, Nat.reduceAdd, Nat.zero_add, Int.cast_ofNat_Int, Int.reduceLT, Int.reduceLE, Int.reduceEq]
    exact Fin.end hcl rfl (by first | rfl | exact (List.append_nil _).symm | (simp only [List.append_assoc]; rfl)) ⟨rfl, rfl⟩
  | succ r ih =>
    intro hr c h hc
    have ih := ih (by omega)
    refine ev_of (fn := Tryd.f25) (hs := []) Tryd.func25 c25 (by simp) fun hcl => ?_
    have hlen := mxCs_len c.l
    have hmx := mxC_eq c
    have hrn := room_ne r
    have hany := con_any c.l 48 [.ref (h ++ [AObj.cells [i64 c.op, i64 c.lo, i64 c.hi, boolv c.low, boolv c.high, conl c.l]]).length 0] (fun x => decide (x.op = 0) || !okCon r x)
      (h ++ [AObj.cells [i64 c.op, i64 c.lo, i64 c.hi, boolv c.low, boolv c.high, conl c.l]] ++ [box1 (r + 1 : Nat)]) (by omega)
      (fun s hs => con1_ev r (by omega) ih s (by have := mxCs_mem hs; omega) _ _ (last_obj _ _))
    have hbare := fun h => bare_ev c h
    simp only [conv_eq] at hbare
    simp only [ac25, conv_eq, hrn, aw20, List.take_succ_cons, List.take_zero, List.drop_zero, List.drop_succ_cons, List.length_map, ↓awD, awP, Nat.reduceLeDiff, Nat.reduceEqDiff, Nat.reduceAdd, Nat.zero_add, Int.cast_ofNat_Int, Int.reduceLT, Int.reduceLE, Int.reduceEq]
    repeat' (first | ((first | refine EvF.ret (hbare _) ?_ | refine EvRF.ret (hbare _) ?_); simp only [hrn, aw21, aw20, List.take_succ_cons, List.take_zero, List.drop_zero, List.drop_succ_cons, List.length_map, ↓awD, awP, Nat.reduceLeDiff, Nat.reduceEqDiff, Nat.reduceAdd, Nat.zero_add, Int.cast_ofNat_Int, Int.reduceLT, Int.reduceLE, Int.reduceEq]) | ((first | refine EvF.ret (hany) ?_ | refine EvRF.ret (hany) ?_); simp only [hrn, aw21, aw20, List.take_succ_cons, List.take_zero, List.drop_zero, List.drop_succ_cons, List.length_map, ↓awD, awP, Nat.reduceLeDiff, Nat.reduceEqDiff, Nat.reduceAdd, Nat.zero_add, Int.cast_ofNat_Int, Int.reduceLT, Int.reduceLE, Int.reduceEq]) | (refine BrF.mk (fun hb => ?_) (fun hb => ?_) <;> (try rw [hb]) <;> simp only [hrn, aw21, aw20, List.take_succ_cons, List.take_zero, List.drop_zero, List.drop_succ_cons, List.length_map, ↓awD, awP, Nat.reduceLeDiff, Nat.reduceEqDiff, Nat.reduceAdd, Nat.zero_add, Int.cast_ofNat_Int, Int.reduceLT, Int.reduceLE, Int.reduceEq]))
    all_goals (refine Fin.end hcl rfl (by first | rfl | exact (List.append_nil _).symm | (simp only [List.append_assoc]; rfl)) ⟨?_, rfl⟩; first | rfl | ((try simp only [dnat, decide_eq_true_eq, decide_eq_false_iff_not, List.length_eq_zero_iff, List.length_pos_iff] at *); first | (simp [*, okCon, okCf, least]; done) | (simp [*, okCon, okCf, least]; omega) | (clear hcl; simp [*, okCon, okCf, least] <;> grind) | (simp [*, okCon, okCf, least])))
end Go.Abs.Fr

namespace Go.Abs.Fr
open Go Go.Abs Go.Proofs
set_option linter.unusedSimpArgs false
set_option maxRecDepth 100000

/-- spandrel/shape.Con -/
def ac13 : ACode := (.seq (.region [⟨(some 1), (.box (.tmp 0)), none⟩, ⟨(some 2), (.move (.const (.bool false))), none⟩]) (.seq (.region [⟨(some 3), (.load (some 6) (.tmp 1)), none⟩, ⟨(some 4), (.call (.func 25) [((.tmp 3), false), ((.const (.int .i64 40)), false)]), none⟩, ⟨(some 2), (.move (.tmp 4)), none⟩]) .ret))
theorem c13 : cfn E0.P [] Tryd.f13 = some (ac13, [(.tmp 2)], 5) := by kernel_rfl
/-- spandrel/shape.printable -/
def ac30 : ACode := (.seq (.region [⟨(some 2), (.move (.const (.bool false))), none⟩]) (.seq (.seq (.region [⟨(some 4), (.move (.tmp 0)), none⟩, ⟨(some 5), (.len true (.tmp 4)), none⟩, ⟨(some 6), (.move (.const (.int .i64 0))), none⟩]) (.block 0 (.loop (.seq (.region [⟨(some 7), (.bin .lss (.tmp 6) (.tmp 5)), none⟩]) (.seq (.cond (.tmp 7) .skip (.exit 0)) (.seq (.block 1 (.seq (.region [⟨(some 8), (.move (.tmp 6)), none⟩, ⟨(some 3), (.move (.tmp 8)), none⟩]) (.seq (.region [⟨(some 9), (.move (.tmp 0)), none⟩, ⟨(some 10), (.move (.tmp 3)), none⟩, ⟨(some 11), (.indexS (.tmp 9) (.tmp 10)), none⟩, ⟨(some 12), (.bin .lss (.tmp 11) (.const (.int .u8 32))), none⟩, ⟨(some 13), (.move (.tmp 12)), none⟩, ⟨(some 14), (.move (.tmp 0)), (some (13, false))⟩, ⟨(some 15), (.move (.tmp 3)), (some (13, false))⟩, ⟨(some 16), (.indexS (.tmp 14) (.tmp 15)), (some (13, false))⟩, ⟨(some 17), (.bin .gtr (.tmp 16) (.const (.int .u8 126))), (some (13, false))⟩, ⟨(some 18), (.pick (.tmp 13) (.const (.bool true)) (.tmp 17)), none⟩]) (.cond (.tmp 18) (.seq (.region [⟨(some 2), (.move (.const (.bool false))), none⟩]) .ret) .skip)))) (.region [⟨(some 19), (.bin .add (.tmp 6) (.const (.int .i64 1))), none⟩, ⟨(some 6), (.move (.tmp 19)), none⟩]))))))) (.seq (.region [⟨(some 2), (.move (.const (.bool true))), none⟩]) .ret)))
theorem c30 : cfn E0.P [] Tryd.f30 = some (ac30, [(.tmp 2)], 20) := by kernel_rfl
/-- spandrel/shape.rises -/
def ac31 : ACode := (.seq (.region [⟨(some 2), (.move (.const (.bool false))), none⟩]) (.seq (.seq (.region [⟨(some 3), (.move (.const (.int .i64 1))), none⟩]) (.block 0 (.loop (.seq (.seq (.region [⟨(some 4), (.move (.tmp 3)), none⟩, ⟨(some 5), (.move (.tmp 0)), none⟩, ⟨(some 6), (.len true (.tmp 5)), none⟩, ⟨(some 7), (.bin .lss (.tmp 4) (.tmp 6)), none⟩]) (.cond (.tmp 7) .skip (.exit 0))) (.seq (.block 1 (.seq (.draw [⟨(some 10), (.move (.tmp 0)), none⟩, ⟨(some 11), (.move (.tmp 3)), none⟩, ⟨(some 12), (.bin .sub (.tmp 11) (.const (.int .i64 1))), none⟩, ⟨(some 13), (.indexS (.tmp 10) (.tmp 12)), none⟩, ⟨(some 14), (.move (.tmp 0)), none⟩, ⟨(some 15), (.move (.tmp 3)), none⟩, ⟨(some 16), (.indexS (.tmp 14) (.tmp 15)), none⟩, ⟨(some 17), (.bin .geq (.tmp 13) (.tmp 16)), none⟩]) (.cond (.tmp 17) (.seq (.region [⟨(some 2), (.move (.const (.bool false))), none⟩]) .ret) .skip))) (.region [⟨(some 8), (.move (.tmp 3)), none⟩, ⟨(some 9), (.bin .add (.tmp 8) (.const (.int .i64 1))), none⟩, ⟨(some 3), (.move (.tmp 9)), none⟩])))))) (.seq (.region [⟨(some 2), (.move (.const (.bool true))), none⟩]) .ret)))
theorem c31 : cfn E0.P [] Tryd.f31 = some (ac31, [(.tmp 2)], 18) := by kernel_rfl
/-- spandrel/shape.words -/
def ac32 : ACode := (.seq (.region [⟨(some 2), (.move (.const (.bool false))), none⟩]) (.seq (.region [⟨(some 3), (.move (.tmp 0)), none⟩, ⟨(some 4), (.len false (.tmp 3)), none⟩, ⟨(some 5), (.bin .leq (.tmp 4) (.const (.int .i64 256))), none⟩, ⟨(some 6), (.move (.tmp 5)), none⟩, ⟨(some 7), (.move (.tmp 0)), (some (6, true))⟩, ⟨(some 8), (.call (.func 51) [((.tmp 7), false), ((.func 52), false)]), (some (6, true))⟩, ⟨(some 9), (.un .not (.tmp 8)), (some (6, true))⟩, ⟨(some 10), (.pick (.tmp 6) (.tmp 9) (.const (.bool false))), none⟩, ⟨(some 2), (.move (.tmp 10)), none⟩]) .ret))
theorem c32 : cfn E0.P [] Tryd.f32 = some (ac32, [(.tmp 2)], 11) := by kernel_rfl
/-- spandrel/shape.words$1 -/
def ac52 : ACode := (.seq (.region [⟨(some 2), (.move (.const (.bool false))), none⟩]) (.seq (.region [⟨(some 3), (.move (.tmp 0)), none⟩, ⟨(some 4), (.call (.func 53) [((.tmp 3), false)]), none⟩, ⟨(some 5), (.un .not (.tmp 4)), none⟩, ⟨(some 2), (.move (.tmp 5)), none⟩]) .ret))
theorem c52 : cfn E0.P [] Tryd.f52 = some (ac52, [(.tmp 2)], 6) := by kernel_rfl
/-- spandrel/shape.def -/
def ac66 : ACode := (.seq (.region [⟨(some 1), (.box (.tmp 0)), none⟩, ⟨(some 2), (.move (.const (.bool false))), none⟩]) (.seq (.seq (.region [⟨(some 3), (.fieldAddr 3 (.tmp 1)), none⟩, ⟨(some 4), (.load none (.tmp 3)), none⟩, ⟨(some 5), (.len false (.tmp 4)), none⟩, ⟨(some 6), (.fieldAddr 4 (.tmp 1)), none⟩, ⟨(some 7), (.load none (.tmp 6)), none⟩, ⟨(some 8), (.len false (.tmp 7)), none⟩, ⟨(some 9), (.bin .add (.tmp 5) (.tmp 8)), none⟩, ⟨(some 10), (.bin .gtr (.tmp 9) (.const (.int .i64 0))), none⟩]) (.cond (.tmp 10) (.seq (.region [⟨(some 2), (.move (.const (.bool false))), none⟩]) .ret) .skip)) (.seq (.seq (.region [⟨(some 11), (.fieldAddr 0 (.tmp 1)), none⟩, ⟨(some 12), (.load none (.tmp 11)), none⟩]) (.block 0 (.seq (.region [⟨(some 14), (.bin .eql (.tmp 12) (.const (.int .i64 1))), none⟩, ⟨(some 13), (.move (.tmp 14)), none⟩]) (.cond (.tmp 13) (.seq (.region [⟨(some 15), (.fieldAddr 2 (.tmp 1)), none⟩, ⟨(some 16), (.load none (.tmp 15)), none⟩, ⟨(some 17), (.bin .eql (.tmp 16) (.const (.string (⟨#[]⟩ : ByteArray)))), none⟩, ⟨(some 18), (.move (.tmp 17)), none⟩, ⟨(some 19), (.fieldAddr 1 (.tmp 1)), (some (18, true))⟩, ⟨(some 20), (.load none (.tmp 19)), (some (18, true))⟩, ⟨(some 21), (.bin .shr (.tmp 20) (.const (.int .u64 1))), (some (18, true))⟩, ⟨(some 22), (.bin .eql (.tmp 21) (.const (.int .i64 0))), (some (18, true))⟩, ⟨(some 23), (.pick (.tmp 18) (.tmp 22) (.const (.bool false))), none⟩, ⟨(some 2), (.move (.tmp 23)), none⟩]) .ret) (.seq (.region [⟨(some 25), (.bin .eql (.tmp 12) (.const (.int .i64 2))), none⟩, ⟨(some 24), (.move (.tmp 25)), none⟩]) (.cond (.tmp 24) (.seq (.region [⟨(some 26), (.fieldAddr 2 (.tmp 1)), none⟩, ⟨(some 27), (.load none (.tmp 26)), none⟩, ⟨(some 28), (.bin .eql (.tmp 27) (.const (.string (⟨#[]⟩ : ByteArray)))), none⟩, ⟨(some 29), (.move (.tmp 28)), none⟩, ⟨(some 30), (.fieldAddr 1 (.tmp 1)), (some (29, true))⟩, ⟨(some 31), (.load none (.tmp 30)), (some (29, true))⟩, ⟨(some 32), (.bin .neq (.tmp 31) (.const (.int .i64 (-9223372036854775808)))), (some (29, true))⟩, ⟨(some 33), (.pick (.tmp 29) (.tmp 32) (.const (.bool false))), none⟩, ⟨(some 2), (.move (.tmp 33)), none⟩]) .ret) (.seq (.region [⟨(some 35), (.bin .eql (.tmp 12) (.const (.int .i64 3))), none⟩, ⟨(some 34), (.move (.tmp 35)), none⟩]) (.cond (.tmp 34) (.seq (.region [⟨(some 36), (.fieldAddr 1 (.tmp 1)), none⟩, ⟨(some 37), (.load none (.tmp 36)), none⟩, ⟨(some 38), (.bin .eql (.tmp 37) (.const (.int .i64 0))), none⟩, ⟨(some 39), (.move (.tmp 38)), none⟩, ⟨(some 40), (.fieldAddr 2 (.tmp 1)), (some (39, true))⟩, ⟨(some 41), (.load none (.tmp 40)), (some (39, true))⟩, ⟨(some 42), (.call (.func 53) [((.tmp 41), false)]), (some (39, true))⟩, ⟨(some 43), (.pick (.tmp 39) (.tmp 42) (.const (.bool false))), none⟩, ⟨(some 2), (.move (.tmp 43)), none⟩]) .ret) .skip)))))))) (.seq (.region [⟨(some 44), (.fieldAddr 0 (.tmp 1)), none⟩, ⟨(some 45), (.load none (.tmp 44)), none⟩, ⟨(some 46), (.bin .eql (.tmp 45) (.const (.int .i64 7))), none⟩, ⟨(some 47), (.move (.tmp 46)), none⟩, ⟨(some 48), (.fieldAddr 1 (.tmp 1)), (some (47, true))⟩, ⟨(some 49), (.load none (.tmp 48)), (some (47, true))⟩, ⟨(some 50), (.bin .eql (.tmp 49) (.const (.int .i64 0))), (some (47, true))⟩, ⟨(some 51), (.pick (.tmp 47) (.tmp 50) (.const (.bool false))), none⟩, ⟨(some 52), (.move (.tmp 51)), none⟩, ⟨(some 53), (.fieldAddr 2 (.tmp 1)), (some (52, true))⟩, ⟨(some 54), (.load none (.tmp 53)), (some (52, true))⟩, ⟨(some 55), (.call (.func 30) [((.tmp 54), false)]), (some (52, true))⟩, ⟨(some 56), (.pick (.tmp 52) (.tmp 55) (.const (.bool false))), none⟩, ⟨(some 2), (.move (.tmp 56)), none⟩]) .ret))))
theorem c66 : cfn E0.P [] Tryd.f66 = some (ac66, [(.tmp 2)], 57) := by kernel_rfl

theorem shCon_ev (c : Con) (h : List AObj) (hc : mxC c ≤ 2 ^ 48) : EvR E0 13 [conv c] h (boolv (okc c)) := by
  refine ev_of (fn := Tryd.f13) (hs := []) Tryd.func13 c13 (by simp) fun hcl => ?_
  have h1 := fun h => con_ev 40 (by omega) c h hc
  simp only [conv_eq] at h1
  simp only [ac13, conv_eq, aw20, List.take_succ_cons, List.take_zero, List.drop_zero, List.drop_succ_cons, List.length_map, ↓awD, awP, Nat.reduceLeDiff, Nat.reduceEqDiff, Nat.reduceAdd, Nat.zero_add, Int.cast_ofNat_Int, Int.reduceLT, Int.reduceLE, Int.reduceEq]
  repeat' ((first | refine EvF.ret (h1 _) ?_ | refine EvRF.ret (h1 _) ?_); simp only [aw21, aw21, aw20, List.take_succ_cons, List.take_zero, List.drop_zero, List.drop_succ_cons, List.length_map, ↓awD, awP, Nat.reduceLeDiff, Nat.reduceEqDiff, Nat.reduceAdd, Nat.zero_add, Int.cast_ofNat_Int, Int.reduceLT, Int.reduceLE, Int.reduceEq])
  all_goals (refine Fin.end hcl rfl (by first | rfl | exact (List.append_nil _).symm | (simp only [List.append_assoc]; rfl)) ⟨?_, rfl⟩; first | rfl | ((try simp only [dnat, decide_eq_true_eq, decide_eq_false_iff_not, List.length_eq_zero_iff, List.length_pos_iff] at *); first | (simp [*, okc]; done) | (simp [*, okc]; omega) | (clear hcl; simp [*, okc] <;> grind) | (simp [*, okc])))

theorem printable_ev (s : ByteArray) (hs : s.size < 2 ^ 60) (h : List AObj) : EvR E0 30 [str s] h (boolv (prn s.data.toList)) := by
  refine ev_of (fn := Tryd.f30) (hs := []) Tryd.func30 c30 (by simp) fun hcl => ?_
  obtain ⟨b, rfl⟩ : ∃ b : List UInt8, s = ⟨b.toArray⟩ := ⟨s.data.toList, rfl⟩
  have hsz := szl b
  generalize hR : prn (⟨b.toArray⟩ : ByteArray).data.toList = R
  replace hR : prn b = R := hR
  simp only [ac30, szl, aw20, List.take_succ_cons, List.take_zero, List.drop_zero, List.drop_succ_cons, List.length_map, ↓awD, awP, Nat.reduceLeDiff, Nat.reduceEqDiff, Nat.reduceAdd, Nat.zero_add, Int.cast_ofNat_Int, Int.reduceLT, Int.reduceLE, Int.reduceEq]
  refine LoopF.list b hs (γ := Unit) (fun i _ => ⟨[(0, str ⟨b.toArray⟩), (5, i64 b.length), (6, i64 i)], h⟩) (fun i _ => prn (b.drop i) = R) () (by simpa using hR) (weak_of rfl (by simp [look])) ?_ ?_
  · rintro i c _ hc hv hi e1 w3
    rw [drop_get hc] at hv
    simp only [prn, List.all_cons, prnc] at hv
    simp only [e1, szl, aw20, List.take_succ_cons, List.take_zero, List.drop_zero, List.drop_succ_cons, List.length_map, ↓awD, awP, Nat.reduceLeDiff, Nat.reduceEqDiff, Nat.reduceAdd, Nat.zero_add, Int.cast_ofNat_Int, Int.reduceLT, Int.reduceLE, Int.reduceEq]
    repeat' (first | ((first | refine Need.mk (by first | (constructor <;> (first | omega | (simp only [decide_eq_true_eq, decide_eq_false_iff_not, Bool.and_eq_true, Bool.not_eq_true', Bool.not_eq_false', List.length_map] at *; omega) | (simp; omega))) | (first | omega | (simp only [decide_eq_true_eq, decide_eq_false_iff_not, Bool.and_eq_true, Bool.not_eq_true', Bool.not_eq_false', List.length_map] at *; omega) | (simp; omega))) (Byte.at hc ?_) | refine Byte.at hc ?_); simp only [w3, szl, aw20, List.take_succ_cons, List.take_zero, List.drop_zero, List.drop_succ_cons, List.length_map, ↓awD, awP, Nat.reduceLeDiff, Nat.reduceEqDiff, Nat.reduceAdd, Nat.zero_add, Int.cast_ofNat_Int, Int.reduceLT, Int.reduceLE, Int.reduceEq]) | (refine BrF.mk (fun hb => ?_) (fun hb => ?_) <;> (try rw [hb]) <;> simp only [w3, aw21, aw20, List.take_succ_cons, List.take_zero, List.drop_zero, List.drop_succ_cons, List.length_map, ↓awD, awP, Nat.reduceLeDiff, Nat.reduceEqDiff, Nat.reduceAdd, Nat.zero_add, Int.cast_ofNat_Int, Int.reduceLT, Int.reduceLE, Int.reduceEq]))
    all_goals (simp only [*, Bool.not_true, Bool.not_false, Bool.false_and, Bool.true_and, Bool.and_true, Bool.and_false] at hv)
    all_goals (first | (subst hv; exact Fin.end hcl rfl (by first | rfl | exact (List.append_nil _).symm | (simp only [List.append_assoc]; rfl)) ⟨rfl, rfl⟩) | exact ⟨(i + 1, ()), ⟨hi, hv⟩, by simp only; omega, weak_of (rfl) (by simp [look])⟩)
  · rintro _ hv e1
    rw [drop_len] at hv
    subst hv
    simp only [e1, szl, aw20, List.take_succ_cons, List.take_zero, List.drop_zero, List.drop_succ_cons, List.length_map, ↓awD, awP, Nat.reduceLeDiff, Nat.reduceEqDiff, Nat.reduceAdd, Nat.zero_add, Int.cast_ofNat_Int, Int.reduceLT, Int.reduceLE, Int.reduceEq]
    exact Fin.end hcl rfl (by first | rfl | exact (List.append_nil _).symm | (simp only [List.append_assoc]; rfl)) ⟨rfl, rfl⟩

theorem rises_ev (s : ByteArray) (hs : s.size < 2 ^ 60) (h : List AObj) : EvR E0 31 [str s] h (boolv (risesL s.data.toList)) := by
  refine ev_of (fn := Tryd.f31) (hs := []) Tryd.func31 c31 (by simp) fun hcl => ?_
  obtain ⟨b, rfl⟩ : ∃ b : List UInt8, s = ⟨b.toArray⟩ := ⟨s.data.toList, rfl⟩
  have hsz := szl b
  generalize hR : risesL (⟨b.toArray⟩ : ByteArray).data.toList = R
  replace hR : risesL b = R := hR
  replace hs : b.length < 2 ^ 60 := hs
  simp only [ac31, szl, aw20, List.take_succ_cons, List.take_zero, List.drop_zero, List.drop_succ_cons, List.length_map, ↓awD, awP, Nat.reduceLeDiff, Nat.reduceEqDiff, Nat.reduceAdd, Nat.zero_add, Int.cast_ofNat_Int, Int.reduceLT, Int.reduceLE, Int.reduceEq]
  refine LoopF.by (α := Nat) (fun i => ⟨[(0, str ⟨b.toArray⟩), (3, i64 (i + 1 : Nat))], h⟩) (fun i => b.length - i) (fun i => i ≤ b.length ∧ risesL (b.drop i) = R) 0 ⟨Nat.zero_le _, by simpa using hR⟩ (weak_of rfl (by simp [look])) ?_
  rintro i ⟨h1, hv⟩
  by_cases hi : i + 1 < b.length
  · obtain ⟨x, hx⟩ : ∃ x, b[i]? = some x := ⟨_, List.getElem?_eq_getElem (by omega)⟩
    obtain ⟨y, hy⟩ : ∃ y, b[i + 1]? = some y := ⟨_, List.getElem?_eq_getElem (by omega)⟩
    have e1 : decide (((i + 1 : Nat) : Int) < (b.length : Int)) = true := by rw [decide_eq_true_eq]; omega
    have w1 : IntKind.i64.wrap (((i + 1 : Nat) : Int) - 1) = (i : Int) := by rw [wrap_i64] <;> omega
    have w3 : IntKind.i64.wrap (((i + 1 : Nat) : Int) + 1) = ((i + 1 + 1 : Nat) : Int) := by rw [wrap_i64] <;> omega
    rw [drop_get hx, drop_get hy] at hv
    simp only [risesL] at hv
    rw [← drop_get hy] at hv
    simp only [e1, w1, szl, aw20, List.take_succ_cons, List.take_zero, List.drop_zero, List.drop_succ_cons, List.length_map, ↓awD, awP, Nat.reduceLeDiff, Nat.reduceEqDiff, Nat.reduceAdd, Nat.zero_add, Int.cast_ofNat_Int, Int.reduceLT, Int.reduceLE, Int.reduceEq]
    repeat' (first | ((first | refine Need.mk (by first | (constructor <;> (first | omega | (simp only [decide_eq_true_eq, decide_eq_false_iff_not, Bool.and_eq_true, Bool.not_eq_true', Bool.not_eq_false', List.length_map] at *; omega) | (simp; omega))) | (first | omega | (simp only [decide_eq_true_eq, decide_eq_false_iff_not, Bool.and_eq_true, Bool.not_eq_true', Bool.not_eq_false', List.length_map] at *; omega) | (simp; omega))) (Byte.at hx ?_) | refine Byte.at hx ?_); simp only [w3, szl, aw20, List.take_succ_cons, List.take_zero, List.drop_zero, List.drop_succ_cons, List.length_map, ↓awD, awP, Nat.reduceLeDiff, Nat.reduceEqDiff, Nat.reduceAdd, Nat.zero_add, Int.cast_ofNat_Int, Int.reduceLT, Int.reduceLE, Int.reduceEq]) | ((first | refine Need.mk (by first | (constructor <;> (first | omega | (simp only [decide_eq_true_eq, decide_eq_false_iff_not, Bool.and_eq_true, Bool.not_eq_true', Bool.not_eq_false', List.length_map] at *; omega) | (simp; omega))) | (first | omega | (simp only [decide_eq_true_eq, decide_eq_false_iff_not, Bool.and_eq_true, Bool.not_eq_true', Bool.not_eq_false', List.length_map] at *; omega) | (simp; omega))) (Byte.at hy ?_) | refine Byte.at hy ?_); simp only [w3, szl, aw20, List.take_succ_cons, List.take_zero, List.drop_zero, List.drop_succ_cons, List.length_map, ↓awD, awP, Nat.reduceLeDiff, Nat.reduceEqDiff, Nat.reduceAdd, Nat.zero_add, Int.cast_ofNat_Int, Int.reduceLT, Int.reduceLE, Int.reduceEq]) | (refine BrF.mk (fun hb => ?_) (fun hb => ?_) <;> (try rw [hb]) <;> simp only [w3, aw21, aw20, List.take_succ_cons, List.take_zero, List.drop_zero, List.drop_succ_cons, List.length_map, ↓awD, awP, Nat.reduceLeDiff, Nat.reduceEqDiff, Nat.reduceAdd, Nat.zero_add, Int.cast_ofNat_Int, Int.reduceLT, Int.reduceLE, Int.reduceEq]))
    all_goals (simp only [decide_eq_true_eq, decide_eq_false_iff_not] at hb)
    · rw [show decide ((x.toNat : Int) < (y.toNat : Int)) = false by rw [decide_eq_false_iff_not]; omega, Bool.false_and] at hv
      subst hv; exact Fin.end hcl rfl (by first | rfl | exact (List.append_nil _).symm | (simp only [List.append_assoc]; rfl)) ⟨rfl, rfl⟩
    · rw [show decide ((x.toNat : Int) < (y.toNat : Int)) = true by rw [decide_eq_true_eq]; omega, Bool.true_and] at hv
      exact ⟨i + 1, ⟨by omega, hv⟩, by omega, weak_of rfl (by simp [look])⟩
  · have e1 : decide (((i + 1 : Nat) : Int) < (b.length : Int)) = false := by rw [decide_eq_false_iff_not]; omega
    have : risesL (b.drop i) = true := by
      have hl : (b.drop i).length ≤ 1 := by simp; omega
      match h : b.drop i, hl with
      | [], _ => rfl
      | [x], _ => rfl
      | x :: y :: l, hl => simp at hl
    rw [this] at hv
    subst hv
    simp only [e1, szl, aw20, List.take_succ_cons, List.take_zero, List.drop_zero, List.drop_succ_cons, List.length_map, ↓awD, awP, Nat.reduceLeDiff, Nat.reduceEqDiff, Nat.reduceAdd, Nat.zero_add, Int.cast_ofNat_Int, Int.reduceLT, Int.reduceLE, Int.reduceEq]
    exact Fin.end hcl rfl (by first | rfl | exact (List.append_nil _).symm | (simp only [List.append_assoc]; rfl)) ⟨rfl, rfl⟩

theorem shr1 (n : Int) : decide (n.fdiv (2 ^ (min (1 : Int).toNat IntKind.i64.bits)) = 0) = (decide (n = 0) || decide (n = 1)) := by
  show decide (n.fdiv 2 = 0) = _
  rw [Int.fdiv_eq_ediv_of_nonneg n (by decide), Bool.eq_iff_iff]
  simp only [decide_eq_true_eq, Bool.or_eq_true]
  omega

theorem sdef_ev (v : Val) (hv : mxV v ≤ 2 ^ 48) (h : List AObj) : EvR E0 66 [valv v] h (boolv (okDef v)) := by
  refine ev_of (fn := Tryd.f66) (hs := []) Tryd.func66 c66 (by simp) fun hcl => ?_
  have hm := mxV_le v
  have hl1 := mxB_len v.names
  have hl2 := mxVs_len v.l
  have hw : IntKind.i64.wrap ((v.names.length : Int) + (v.l.length : Int)) = ((v.names.length + v.l.length : Nat) : Int) := by rw [wrap_i64] <;> omega
  simp only [ac66, valv_eq, hw, aw20, List.take_succ_cons, List.take_zero, List.drop_zero, List.drop_succ_cons, List.length_map, ↓awD, awP, Nat.reduceLeDiff, Nat.reduceEqDiff, Nat.reduceAdd, Nat.zero_add, Int.cast_ofNat_Int, Int.reduceLT, Int.reduceLE, Int.reduceEq]
  repeat' (first | ((first | refine EvF.ret (lower_ev v.s _ (by omega)) ?_ | refine EvRF.ret (lower_ev v.s _ (by omega)) ?_); simp only [shr1, aw21, aw20, List.take_succ_cons, List.take_zero, List.drop_zero, List.drop_succ_cons, List.length_map, ↓awD, awP, Nat.reduceLeDiff, Nat.reduceEqDiff, Nat.reduceAdd, Nat.zero_add, Int.cast_ofNat_Int, Int.reduceLT, Int.reduceLE, Int.reduceEq]) | ((first | refine EvF.ret (printable_ev v.s (by omega) _) ?_ | refine EvRF.ret (printable_ev v.s (by omega) _) ?_); simp only [shr1, aw21, aw20, List.take_succ_cons, List.take_zero, List.drop_zero, List.drop_succ_cons, List.length_map, ↓awD, awP, Nat.reduceLeDiff, Nat.reduceEqDiff, Nat.reduceAdd, Nat.zero_add, Int.cast_ofNat_Int, Int.reduceLT, Int.reduceLE, Int.reduceEq]) | (refine Need.mk (by first | decide | (first | omega | (simp only [decide_eq_true_eq, decide_eq_false_iff_not, Bool.and_eq_true, Bool.not_eq_true', Bool.not_eq_false', List.length_map] at *; omega) | (simp; omega)) | (constructor <;> (first | omega | (simp only [decide_eq_true_eq, decide_eq_false_iff_not, Bool.and_eq_true, Bool.not_eq_true', Bool.not_eq_false', List.length_map] at *; omega) | (simp; omega)))) ?_; simp only [shr1, szl, aw20, List.take_succ_cons, List.take_zero, List.drop_zero, List.drop_succ_cons, List.length_map, ↓awD, awP, Nat.reduceLeDiff, Nat.reduceEqDiff, Nat.reduceAdd, Nat.zero_add, Int.cast_ofNat_Int, Int.reduceLT, Int.reduceLE, Int.reduceEq]) | (refine BrF.mk (fun hb => ?_) (fun hb => ?_) <;> (try rw [hb]) <;> simp only [shr1, aw21, aw20, List.take_succ_cons, List.take_zero, List.drop_zero, List.drop_succ_cons, List.length_map, ↓awD, awP, Nat.reduceLeDiff, Nat.reduceEqDiff, Nat.reduceAdd, Nat.zero_add, Int.cast_ofNat_Int, Int.reduceLT, Int.reduceLE, Int.reduceEq]))
  all_goals (refine Fin.end hcl rfl (by first | rfl | exact (List.append_nil _).symm | (simp only [List.append_assoc]; rfl)) ⟨?_, rfl⟩; first | rfl | ((try simp only [dnat, decide_eq_true_eq, decide_eq_false_iff_not, List.length_eq_zero_iff, List.length_pos_iff] at *); first | (simp [*, okDef, least, lowr]; done) | (simp [*, okDef, least, lowr]; omega) | (clear hcl; simp [*, okDef, least, lowr] <;> grind) | (simp [*, okDef, least, lowr])))

theorem wordsn_ev (s : ByteArray) (hs : s.size < 2 ^ 60) (h : List AObj) : EvR E0 52 [str s] h (boolv (!lowr s)) := by
  refine ev_of (fn := Tryd.f52) (hs := []) Tryd.func52 c52 (by simp) fun hcl => ?_
  simp only [ac52, aw20, List.take_succ_cons, List.take_zero, List.drop_zero, List.drop_succ_cons, List.length_map, ↓awD, awP, Nat.reduceLeDiff, Nat.reduceEqDiff, Nat.reduceAdd, Nat.zero_add, Int.cast_ofNat_Int, Int.reduceLT, Int.reduceLE, Int.reduceEq]
  repeat' (first | ((first | refine EvF.ret (lower_ev s _ hs) ?_ | refine EvRF.ret (lower_ev s _ hs) ?_); simp only [aw21, aw21, aw20, List.take_succ_cons, List.take_zero, List.drop_zero, List.drop_succ_cons, List.length_map, ↓awD, awP, Nat.reduceLeDiff, Nat.reduceEqDiff, Nat.reduceAdd, Nat.zero_add, Int.cast_ofNat_Int, Int.reduceLT, Int.reduceLE, Int.reduceEq]) | (refine BrF.mk (fun hb => ?_) (fun hb => ?_) <;> (try rw [hb]) <;> simp only [aw21, aw21, aw20, List.take_succ_cons, List.take_zero, List.drop_zero, List.drop_succ_cons, List.length_map, ↓awD, awP, Nat.reduceLeDiff, Nat.reduceEqDiff, Nat.reduceAdd, Nat.zero_add, Int.cast_ofNat_Int, Int.reduceLT, Int.reduceLE, Int.reduceEq]))
  all_goals (refine Fin.end hcl rfl (by first | rfl | exact (List.append_nil _).symm | (simp only [List.append_assoc]; rfl)) ⟨?_, rfl⟩; first | rfl | ((try simp only [dnat, decide_eq_true_eq, decide_eq_false_iff_not, List.length_eq_zero_iff, List.length_pos_iff] at *); first | (simp [*, lowr]; done) | (simp [*, lowr]; omega) | (clear hcl; simp [*, lowr] <;> grind) | (simp [*, lowr])))
theorem words_ev (l : List ByteArray) (hl : mxB l ≤ 2 ^ 48) (h : List AObj) : EvR E0 32 [strl l] h (boolv (wordsOk l)) := by
  refine ev_of (fn := Tryd.f32) (hs := []) Tryd.func32 c32 (by simp) fun hcl => ?_
  have hl1 := mxB_len l
  have hany := str_any l 52 [] (fun s => !lowr s) h (by omega) (fun s hs => wordsn_ev s (by have := mxB_mem hs; omega) h)
  simp only [ac32, aw20, List.take_succ_cons, List.take_zero, List.drop_zero, List.drop_succ_cons, List.length_map, ↓awD, awP, Nat.reduceLeDiff, Nat.reduceEqDiff, Nat.reduceAdd, Nat.zero_add, Int.cast_ofNat_Int, Int.reduceLT, Int.reduceLE, Int.reduceEq]
  repeat' (first | ((first | refine EvF.ret (hany) ?_ | refine EvRF.ret (hany) ?_); simp only [aw21, aw21, aw20, List.take_succ_cons, List.take_zero, List.drop_zero, List.drop_succ_cons, List.length_map, ↓awD, awP, Nat.reduceLeDiff, Nat.reduceEqDiff, Nat.reduceAdd, Nat.zero_add, Int.cast_ofNat_Int, Int.reduceLT, Int.reduceLE, Int.reduceEq]) | (refine BrF.mk (fun hb => ?_) (fun hb => ?_) <;> (try rw [hb]) <;> simp only [aw21, aw21, aw20, List.take_succ_cons, List.take_zero, List.drop_zero, List.drop_succ_cons, List.length_map, ↓awD, awP, Nat.reduceLeDiff, Nat.reduceEqDiff, Nat.reduceAdd, Nat.zero_add, Int.cast_ofNat_Int, Int.reduceLT, Int.reduceLE, Int.reduceEq]))
  all_goals (refine Fin.end hcl rfl (by first | rfl | exact (List.append_nil _).symm | (simp only [List.append_assoc]; rfl)) ⟨?_, rfl⟩; first | rfl | ((try simp only [dnat, decide_eq_true_eq, decide_eq_false_iff_not, List.length_eq_zero_iff, List.length_pos_iff] at *); first | (simp [*, wordsOk]; done) | (simp [*, wordsOk]; omega) | (clear hcl; simp [*, wordsOk] <;> grind) | (simp [*, wordsOk])))
end Go.Abs.Fr
