/- The text of constraints: the writer. -/
import Derived.Test.YthhhpaifelgcpaaDoorS08Row
import Derived.Test.YthhhpaifelgcpaaDoorS08FrB
import Derived.Test.YthhhpaifelgcpaaDoorS08Num
import Derived.Test.YthhhpaifelgcpaaDoorAbsK2
import Derived.Test.YthhhpaifelgcpaaDoorS08Sh2
set_option linter.all false
namespace Go.Abs.Fr
open Go Go.Abs Go.Proofs
set_option linter.unusedSimpArgs false
set_option maxRecDepth 100000

/-- (*spandrel/shape.writer).put -/
def ac40 : ACode := (.seq (.region [⟨(some 6), (.move (.tmp 1)), none⟩, ⟨(some 7), (.len false (.tmp 6)), none⟩, ⟨(some 8), (.move (.const (.int .i64 0))), none⟩]) (.block 0 (.loop (.seq (.region [⟨(some 9), (.bin .lss (.tmp 8) (.tmp 7)), none⟩]) (.seq (.cond (.tmp 9) .skip (.exit 0)) (.seq (.block 1 (.seq (.region [⟨(some 10), (.indexAddr 1 (.tmp 6) (.tmp 8)), none⟩, ⟨(some 11), (.load none (.tmp 10)), none⟩, ⟨(some 5), (.move (.tmp 11)), none⟩]) (.region [⟨(some 12), (.move (.tmp 0)), none⟩, ⟨(some 13), (.nilCheck (.tmp 12)), none⟩, ⟨(some 14), (.fieldAddr 0 (.tmp 13)), none⟩, ⟨(some 15), (.move (.tmp 5)), none⟩, ⟨(some 16), (.call (.func 59) [((.tmp 14), false), ((.tmp 15), false)]), none⟩]))) (.region [⟨(some 17), (.bin .add (.tmp 8) (.const (.int .i64 1))), none⟩, ⟨(some 8), (.move (.tmp 17)), none⟩])))))))
theorem c40 : cfn E0.P [] Tryd.f40 = some (ac40, [], 18) := by kernel_rfl

abbrev wrS (out : List UInt8) : AObj := .cells [.bp 54, .buf 5 out]
theorem liesS : lies 54 2 := by unfold lies; kernel_rfl
/-- The objects, of which one is a writer that has written so much. -/
def hw (h : List AObj) (id : Nat) (out : List UInt8) : List AObj := h.set id (wrS out)
section
variable {h : List AObj} {id : Nat} {out : List UInt8} (hid : id < h.length)
theorem hw_len : (hw h id out).length = h.length := List.length_set
theorem hw_set (o : List UInt8) : (hw h id out).set id (wrS o) = hw h id o := List.set_set ..
include hid
theorem hw_get : (hw h id out)[id]? = some (wrS out) := List.getElem?_set_self hid
theorem hw_app (J : List AObj) : hw h id out ++ J = hw (h ++ J) id out := (List.set_append_left _ _ hid).symm
omit hid in
theorem hw_ne {k : Nat} (hk : id < k) : (hw h id out)[k]? = h[k]? := List.getElem?_set_ne (by omega)
omit hid in
theorem hw_setk {k : Nat} (hk : id < k) (v : AObj) : (hw h id out).set k v = hw (h.set k v) id out := List.set_comm _ _ (by omega)
theorem hL1 (a : List AObj) : id < (h ++ a).length := by simp; omega
theorem hL2 (a b : List AObj) : id < (h ++ a ++ b).length := by simp; omega
theorem hL3 (a b c : List AObj) : id < (h ++ a ++ b ++ c).length := by simp; omega
theorem hL4 (a b c d : List AObj) : id < (h ++ a ++ b ++ c ++ d).length := by simp; omega
omit hid in
theorem getC (C : AObj) (J : List AObj) : (h ++ [C] ++ J)[h.length]? = some C := by rw [List.append_assoc]; simp
omit hid in
theorem getC2 (C : AObj) (J K : List AObj) : (h ++ [C] ++ J ++ K)[h.length]? = some C := by rw [List.append_assoc, List.append_assoc]; simp
theorem Fin.hw {B J : List AObj} {out' : List UInt8} {v : AV} {Q : ARes → List AObj → Prop} {t} (hc : Closed (Fr.hw h id out)) (hu : AV.under h.length v = true) (hB : B = h ++ J) (hq : Q (.ret v) (Fr.hw h id out')) : Fin (Fr.hw B id out') h.length v Q t := by
  subst hB
  refine Fin.junk (h := Fr.hw h id out') (junk := J) (hw_app hid J).symm (by rw [hw_len]; exact Nat.le_refl _) ?_ (by rw [hw_len]; exact hu) hq
  have := closed_set (s := id) (l := [.bp 54, .buf 5 out']) hc rfl
  rw [hw_set] at this
  exact this
end
theorem hw_new (X : List AObj) (a : AObj) (o : List UInt8) : hw (X ++ [a]) X.length o = X ++ [wrS o] := by simp [hw]
def tx (l : List ByteArray) : List UInt8 := l.flatMap fun s => s.data.toList
theorem tx_snoc (l : List ByteArray) (i : Nat) (x : ByteArray) (h : l[i]? = some x) : tx (l.take (i + 1)) = tx (l.take i) ++ x.data.toList := by
  obtain ⟨hi, he⟩ := List.getElem?_eq_some_iff.1 h
  unfold tx
  rw [List.take_succ_eq_append_getElem hi, he]; simp
theorem tx_le (l : List ByteArray) (i : Nat) : (tx (l.take i)).length ≤ (tx l).length := by
  have : tx l = tx (l.take i) ++ tx (l.drop i) := by unfold tx; rw [← List.flatMap_append, List.take_append_drop]
  rw [this]; simp

theorem tx_cons (a : ByteArray) (l : List ByteArray) : tx (a :: l) = a.data.toList ++ tx l := rfl
theorem tx_nil : tx [] = [] := rfl
theorem put_ev {h : List AObj} {id : Nat} {out : List UInt8} (hid : id < h.length) (l : List ByteArray) (hl : l.length ≤ 1000) (hlen : out.length + (tx l).length ≤ 140737488355328) :
    Ev E0 40 [.ref id 0, .sl .full (l.map str)] (hw h id out) (fun r h' => r = .ret (.tup []) ∧ h' = hw h id (out ++ tx l)) := by
  refine ev_of (fn := Tryd.f40) (hs := []) Tryd.func40 c40 (by simp) fun hcl => ?_
  simp only [ac40, hw_len, hw_set, hw_app, hw_get, hw_ne, hw_setk, getC, getC2, hid, hL1 hid, hL2 hid, hL3 hid, hL4 hid, aw20, List.take_succ_cons, List.take_zero, List.drop_zero, List.drop_succ_cons, List.length_map, ↓awD, awP, Nat.reduceLeDiff, Nat.reduceEqDiff, Nat.reduceAdd, Nat.zero_add, Int.cast_ofNat_Int, Int.reduceLT, Int.reduceLE, Int.reduceEq]
  refine LoopF.list l (by omega) (γ := Unit) (fun i _ => ⟨[(0, .ref id 0), (6, .sl .full (l.map str)), (7, i64 l.length), (8, i64 i)], hw h id (out ++ tx (l.take i))⟩) (fun _ _ => True) () trivial (weak_of (by simp [tx]) (by simp [look])) ?_ ?_
  · rintro i x _ hx _ hi e1 w3
    have hga := map_get str l i x hx
    have hsn := tx_snoc l i x hx
    have hle := tx_le l (i + 1)
    rw [hsn, List.length_append] at hle
    simp only [e1, aw20, List.take_succ_cons, List.take_zero, List.drop_zero, List.drop_succ_cons, List.length_map, ↓awD, awP, Nat.reduceLeDiff, Nat.reduceEqDiff, Nat.reduceAdd, Nat.zero_add, Int.cast_ofNat_Int, Int.reduceLT, Int.reduceLE, Int.reduceEq]
    repeat' ((first | refine Need.mk (by first | (first | omega | (simp only [decide_eq_true_eq, decide_eq_false_iff_not, Bool.and_eq_true, Bool.not_eq_true', Bool.not_eq_false', List.length_map] at *; omega) | (simp; omega)) | (constructor <;> (first | omega | (simp only [decide_eq_true_eq, decide_eq_false_iff_not, Bool.and_eq_true, Bool.not_eq_true', Bool.not_eq_false', List.length_map] at *; omega) | (simp; omega)))) (Elem.recs hga (by first | (rw [str]; exact ⟨rfl, rfl⟩) | exact ⟨rfl, rfl⟩) ?_) | refine Elem.recs hga (by first | (rw [str]; exact ⟨rfl, rfl⟩) | exact ⟨rfl, rfl⟩) ?_); simp only [str, aw21, aw21, aw20, List.take_succ_cons, List.take_zero, List.drop_zero, List.drop_succ_cons, List.length_map, ↓awD, awP, Nat.reduceLeDiff, Nat.reduceEqDiff, Nat.reduceAdd, Nat.zero_add, Int.cast_ofNat_Int, Int.reduceLT, Int.reduceLE, Int.reduceEq])
    refine EvF.use (writeString_ev x (hw_get hid) liesS (by simp only [List.length_append]; rw [show x.size = x.data.toList.length by simp]; omega)) ?_
    rintro r h' ⟨rfl, rfl⟩
    simp only [w3, aw20, List.take_succ_cons, List.take_zero, List.drop_zero, List.drop_succ_cons, List.length_map, ↓awD, awP, Nat.reduceLeDiff, Nat.reduceEqDiff, Nat.reduceAdd, Nat.zero_add, Int.cast_ofNat_Int, Int.reduceLT, Int.reduceLE, Int.reduceEq]
    exact ⟨(i + 1, ()), hi, by simp only; omega, weak_of (by rw [hsn, ← List.append_assoc, hw_set]) (by simp [look])⟩
  · rintro _ _ e1
    rw [take_len]
    simp only [e1, hw_len, hw_set, hw_app, hw_get, hw_ne, hw_setk, getC, getC2, hid, hL1 hid, hL2 hid, hL3 hid, hL4 hid, aw20, List.take_succ_cons, List.take_zero, List.drop_zero, List.drop_succ_cons, List.length_map, ↓awD, awP, Nat.reduceLeDiff, Nat.reduceEqDiff, Nat.reduceAdd, Nat.zero_add, Int.cast_ofNat_Int, Int.reduceLT, Int.reduceLE, Int.reduceEq]
    exact Fin.hw hid hcl rfl (by first | rfl | exact (List.append_nil _).symm | (simp only [List.append_assoc]; rfl)) ⟨rfl, rfl⟩
end Go.Abs.Fr

namespace Go.Abs.Fr
open Go Go.Abs Go.Proofs
set_option linter.unusedSimpArgs false
set_option maxRecDepth 100000

/-- spandrel/shape.Con -/
def ac13 : ACode := (.seq (.region [⟨(some 1), (.box (.tmp 0)), none⟩, ⟨(some 2), (.move (.const (.bool false))), none⟩]) (.seq (.region [⟨(some 3), (.load (some 6) (.tmp 1)), none⟩, ⟨(some 4), (.call (.func 25) [((.tmp 3), false), ((.const (.int .i64 40)), false)]), none⟩, ⟨(some 2), (.move (.tmp 4)), none⟩]) .ret))
theorem c13 : cfn E0.P [] Tryd.f13 = some (ac13, [(.tmp 2)], 5) := by kernel_rfl
/-- spandrel/shape.printable -/
def ac30 : ACode := (.seq (.region [⟨(some 2), (.move (.const (.bool false))), none⟩]) (.seq (.seq (.region [⟨(some 4), (.move (.tmp 0)), none⟩, ⟨(some 5), (.len true (.tmp 4)), none⟩, ⟨(some 6), (.move (.const (.int .i64 0))), none⟩]) (.block 0 (.loop (.seq (.region [⟨(some 7), (.bin .lss (.tmp 6) (.tmp 5)), none⟩]) (.seq (.cond (.tmp 7) .skip (.exit 0)) (.seq (.block 1 (.seq (.region [⟨(some 8), (.move (.tmp 6)), none⟩, ⟨(some 3), (.move (.tmp 8)), none⟩]) (.seq (.region [⟨(some 9), (.move (.tmp 0)), none⟩, ⟨(some 10), (.move (.tmp 3)), none⟩, ⟨(some 11), (.indexS (.tmp 9) (.tmp 10)), none⟩, ⟨(some 12), (.bin .lss (.tmp 11) (.const (.int .u8 32))), none⟩, ⟨(some 13), (.move (.tmp 12)), none⟩, ⟨(some 14), (.move (.tmp 0)), (some (13, false))⟩, ⟨(some 15), (.move (.tmp 3)), (some (13, false))⟩, ⟨(some 16), (.indexS (.tmp 14) (.tmp 15)), (some (13, false))⟩, ⟨(some 17), (.bin .gtr (.tmp 16) (.const (.int .u8 126))), (some (13, false))⟩, ⟨(some 18), (.pick (.tmp 13) (.const (.bool true)) (.tmp 17)), none⟩]) (.cond (.tmp 18) (.seq (.region [⟨(some 2), (.move (.const (.bool false))), none⟩]) .ret) .skip)))) (.region [⟨(some 19), (.bin .add (.tmp 6) (.const (.int .i64 1))), none⟩, ⟨(some 6), (.move (.tmp 19)), none⟩]))))))) (.seq (.region [⟨(some 2), (.move (.const (.bool true))), none⟩]) .ret)))
theorem c30 : cfn E0.P [] Tryd.f30 = some (ac30, [(.tmp 2)], 20) := by kernel_rfl
/-- spandrel/shape.rises -/
def ac31 : ACode := (.seq (.region [⟨(some 2), (.move (.const (.bool false))), none⟩]) (.seq (.seq (.region [⟨(some 3), (.move (.const (.int .i64 1))), none⟩]) (.block 0 (.loop (.seq (.seq (.region [⟨(some 4), (.move (.tmp 3)), none⟩, ⟨(some 5), (.move (.tmp 0)), none⟩, ⟨(some 6), (.len true (.tmp 5)), none⟩, ⟨(some 7), (.bin .lss (.tmp 4) (.tmp 6)), none⟩]) (.cond (.tmp 7) .skip (.exit 0))) (.seq (.block 1 (.seq (.draw [⟨(some 10), (.move (.tmp 0)), none⟩, ⟨(some 11), (.move (.tmp 3)), none⟩, ⟨(some 12), (.bin .sub (.tmp 11) (.const (.int .i64 1))), none⟩, ⟨(some 13), (.indexS (.tmp 10) (.tmp 12)), none⟩, ⟨(some 14), (.move (.tmp 0)), none⟩, ⟨(some 15), (.move (.tmp 3)), none⟩, ⟨(some 16), (.indexS (.tmp 14) (.tmp 15)), none⟩, ⟨(some 17), (.bin .geq (.tmp 13) (.tmp 16)), none⟩]) (.cond (.tmp 17) (.seq (.region [⟨(some 2), (.move (.const (.bool false))), none⟩]) .ret) .skip))) (.region [⟨(some 8), (.move (.tmp 3)), none⟩, ⟨(some 9), (.bin .add (.tmp 8) (.const (.int .i64 1))), none⟩, ⟨(some 3), (.move (.tmp 9)), none⟩])))))) (.seq (.region [⟨(some 2), (.move (.const (.bool true))), none⟩]) .ret)))
theorem c31 : cfn E0.P [] Tryd.f31 = some (ac31, [(.tmp 2)], 18) := by kernel_rfl
/-- spandrel/shape.words -/
def ac32 : ACode := (.seq (.region [⟨(some 2), (.move (.const (.bool false))), none⟩]) (.seq (.region [⟨(some 3), (.move (.tmp 0)), none⟩, ⟨(some 4), (.len false (.tmp 3)), none⟩, ⟨(some 5), (.bin .leq (.tmp 4) (.const (.int .i64 256))), none⟩, ⟨(some 6), (.move (.tmp 5)), none⟩, ⟨(some 7), (.move (.tmp 0)), (some (6, true))⟩, ⟨(some 8), (.call (.func 51) [((.tmp 7), false), ((.func 52), false)]), (some (6, true))⟩, ⟨(some 9), (.un .not (.tmp 8)), (some (6, true))⟩, ⟨(some 10), (.pick (.tmp 6) (.tmp 9) (.const (.bool false))), none⟩, ⟨(some 2), (.move (.tmp 10)), none⟩]) .ret))
theorem c32 : cfn E0.P [] Tryd.f32 = some (ac32, [(.tmp 2)], 11) := by kernel_rfl
/-- spandrel/shape.words$1 -/
def ac52 : ACode := (.seq (.region [⟨(some 2), (.move (.const (.bool false))), none⟩]) (.seq (.region [⟨(some 3), (.move (.tmp 0)), none⟩, ⟨(some 4), (.call (.func 53) [((.tmp 3), false)]), none⟩, ⟨(some 5), (.un .not (.tmp 4)), none⟩, ⟨(some 2), (.move (.tmp 5)), none⟩]) .ret))
theorem c52 : cfn E0.P [] Tryd.f52 = some (ac52, [(.tmp 2)], 6) := by kernel_rfl
/-- spandrel/shape.def -/
def ac66 : ACode := (.seq (.region [⟨(some 1), (.box (.tmp 0)), none⟩, ⟨(some 2), (.move (.const (.bool false))), none⟩]) (.seq (.seq (.region [⟨(some 3), (.fieldAddr 3 (.tmp 1)), none⟩, ⟨(some 4), (.load none (.tmp 3)), none⟩, ⟨(some 5), (.len false (.tmp 4)), none⟩, ⟨(some 6), (.fieldAddr 4 (.tmp 1)), none⟩, ⟨(some 7), (.load none (.tmp 6)), none⟩, ⟨(some 8), (.len false (.tmp 7)), none⟩, ⟨(some 9), (.bin .add (.tmp 5) (.tmp 8)), none⟩, ⟨(some 10), (.bin .gtr (.tmp 9) (.const (.int .i64 0))), none⟩]) (.cond (.tmp 10) (.seq (.region [⟨(some 2), (.move (.const (.bool false))), none⟩]) .ret) .skip)) (.seq (.seq (.region [⟨(some 11), (.fieldAddr 0 (.tmp 1)), none⟩, ⟨(some 12), (.load none (.tmp 11)), none⟩]) (.block 0 (.seq (.region [⟨(some 14), (.bin .eql (.tmp 12) (.const (.int .i64 1))), none⟩, ⟨(some 13), (.move (.tmp 14)), none⟩]) (.cond (.tmp 13) (.seq (.region [⟨(some 15), (.fieldAddr 2 (.tmp 1)), none⟩, ⟨(some 16), (.load none (.tmp 15)), none⟩, ⟨(some 17), (.bin .eql (.tmp 16) (.const (.string (⟨#[]⟩ : ByteArray)))), none⟩, ⟨(some 18), (.move (.tmp 17)), none⟩, ⟨(some 19), (.fieldAddr 1 (.tmp 1)), (some (18, true))⟩, ⟨(some 20), (.load none (.tmp 19)), (some (18, true))⟩, ⟨(some 21), (.bin .shr (.tmp 20) (.const (.int .u64 1))), (some (18, true))⟩, ⟨(some 22), (.bin .eql (.tmp 21) (.const (.int .i64 0))), (some (18, true))⟩, ⟨(some 23), (.pick (.tmp 18) (.tmp 22) (.const (.bool false))), none⟩, ⟨(some 2), (.move (.tmp 23)), none⟩]) .ret) (.seq (.region [⟨(some 25), (.bin .eql (.tmp 12) (.const (.int .i64 2))), none⟩, ⟨(some 24), (.move (.tmp 25)), none⟩]) (.cond (.tmp 24) (.seq (.region [⟨(some 26), (.fieldAddr 2 (.tmp 1)), none⟩, ⟨(some 27), (.load none (.tmp 26)), none⟩, ⟨(some 28), (.bin .eql (.tmp 27) (.const (.string (⟨#[]⟩ : ByteArray)))), none⟩, ⟨(some 29), (.move (.tmp 28)), none⟩, ⟨(some 30), (.fieldAddr 1 (.tmp 1)), (some (29, true))⟩, ⟨(some 31), (.load none (.tmp 30)), (some (29, true))⟩, ⟨(some 32), (.bin .neq (.tmp 31) (.const (.int .i64 (-9223372036854775808)))), (some (29, true))⟩, ⟨(some 33), (.pick (.tmp 29) (.tmp 32) (.const (.bool false))), none⟩, ⟨(some 2), (.move (.tmp 33)), none⟩]) .ret) (.seq (.region [⟨(some 35), (.bin .eql (.tmp 12) (.const (.int .i64 3))), none⟩, ⟨(some 34), (.move (.tmp 35)), none⟩]) (.cond (.tmp 34) (.seq (.region [⟨(some 36), (.fieldAddr 1 (.tmp 1)), none⟩, ⟨(some 37), (.load none (.tmp 36)), none⟩, ⟨(some 38), (.bin .eql (.tmp 37) (.const (.int .i64 0))), none⟩, ⟨(some 39), (.move (.tmp 38)), none⟩, ⟨(some 40), (.fieldAddr 2 (.tmp 1)), (some (39, true))⟩, ⟨(some 41), (.load none (.tmp 40)), (some (39, true))⟩, ⟨(some 42), (.call (.func 53) [((.tmp 41), false)]), (some (39, true))⟩, ⟨(some 43), (.pick (.tmp 39) (.tmp 42) (.const (.bool false))), none⟩, ⟨(some 2), (.move (.tmp 43)), none⟩]) .ret) .skip)))))))) (.seq (.region [⟨(some 44), (.fieldAddr 0 (.tmp 1)), none⟩, ⟨(some 45), (.load none (.tmp 44)), none⟩, ⟨(some 46), (.bin .eql (.tmp 45) (.const (.int .i64 7))), none⟩, ⟨(some 47), (.move (.tmp 46)), none⟩, ⟨(some 48), (.fieldAddr 1 (.tmp 1)), (some (47, true))⟩, ⟨(some 49), (.load none (.tmp 48)), (some (47, true))⟩, ⟨(some 50), (.bin .eql (.tmp 49) (.const (.int .i64 0))), (some (47, true))⟩, ⟨(some 51), (.pick (.tmp 47) (.tmp 50) (.const (.bool false))), none⟩, ⟨(some 52), (.move (.tmp 51)), none⟩, ⟨(some 53), (.fieldAddr 2 (.tmp 1)), (some (52, true))⟩, ⟨(some 54), (.load none (.tmp 53)), (some (52, true))⟩, ⟨(some 55), (.call (.func 30) [((.tmp 54), false)]), (some (52, true))⟩, ⟨(some 56), (.pick (.tmp 52) (.tmp 55) (.const (.bool false))), none⟩, ⟨(some 2), (.move (.tmp 56)), none⟩]) .ret))))
theorem c66 : cfn E0.P [] Tryd.f66 = some (ac66, [(.tmp 2)], 57) := by kernel_rfl

theorem shCon_ev (c : Con) (h : List AObj) (hc : mxC c ≤ 2 ^ 48) : EvR E0 13 [conv c] h (boolv (okc c)) := by
  refine ev_of (fn := Tryd.f13) (hs := []) Tryd.func13 c13 (by simp) fun hcl => ?_
  have h1 := fun h => con_ev 40 (by omega) c h hc
  simp only [conv_eq] at h1
  simp only [ac13, conv_eq, aw20, List.take_succ_cons, List.take_zero, List.drop_zero, List.drop_succ_cons, List.length_map, ↓awD, awP, Nat.reduceLeDiff, Nat.reduceEqDiff, Nat.reduceAdd, Nat.zero_add, Int.cast_ofNat_Int, Int.reduceLT, Int.reduceLE, Int.reduceEq]
  repeat' ((first | refine EvF.ret (h1 _) ?_ | refine EvRF.ret (h1 _) ?_); simp only [aw21, aw21, aw20, List.take_succ_cons, List.take_zero, List.drop_zero, List.drop_succ_cons, List.length_map, ↓awD, awP, Nat.reduceLeDiff, Nat.reduceEqDiff, Nat.reduceAdd, Nat.zero_add, Int.cast_ofNat_Int, Int.reduceLT, Int.reduceLE, Int.reduceEq])
  all_goals (refine Fin.end hcl rfl (by first | rfl | exact (List.append_nil _).symm | (simp only [List.append_assoc]; rfl)) ⟨?_, rfl⟩; first | rfl | ((try simp only [dnat, decide_eq_true_eq, decide_eq_false_iff_not, List.length_eq_zero_iff, List.length_pos_iff] at *); first | (simp [*, okc]; done) | (simp [*, okc]; omega) | (clear hcl; simp [*, okc] <;> grind) | (simp [*, okc])))

theorem printable_ev (s : ByteArray) (hs : s.size < 2 ^ 60) (h : List AObj) : EvR E0 30 [str s] h (boolv (prn s.data.toList)) := by
  refine ev_of (fn := Tryd.f30) (hs := []) Tryd.func30 c30 (by simp) fun hcl => ?_
  obtain ⟨b, rfl⟩ : ∃ b : List UInt8, s = ⟨b.toArray⟩ := ⟨s.data.toList, rfl⟩
  have hsz := szl b
  generalize hR : prn (⟨b.toArray⟩ : ByteArray).data.toList = R
  replace hR : prn b = R := hR
  simp only [ac30, szl, aw20, List.take_succ_cons, List.take_zero, List.drop_zero, List.drop_succ_cons, List.length_map, ↓awD, awP, Nat.reduceLeDiff, Nat.reduceEqDiff, Nat.reduceAdd, Nat.zero_add, Int.cast_ofNat_Int, Int.reduceLT, Int.reduceLE, Int.reduceEq]
  refine LoopF.list b hs (γ := Unit) (fun i _ => ⟨[(0, str ⟨b.toArray⟩), (5, i64 b.length), (6, i64 i)], h⟩) (fun i _ => prn (b.drop i) = R) () (by simpa using hR) (weak_of rfl (by simp [look])) ?_ ?_
  · rintro i c _ hc hv hi e1 w3
    rw [drop_get hc] at hv
    simp only [prn, List.all_cons, prnc] at hv
    simp only [e1, szl, aw20, List.take_succ_cons, List.take_zero, List.drop_zero, List.drop_succ_cons, List.length_map, ↓awD, awP, Nat.reduceLeDiff, Nat.reduceEqDiff, Nat.reduceAdd, Nat.zero_add, Int.cast_ofNat_Int, Int.reduceLT, Int.reduceLE, Int.reduceEq]
    repeat' (first | ((first | refine Need.mk (by first | (constructor <;> (first | omega | (simp only [decide_eq_true_eq, decide_eq_false_iff_not, Bool.and_eq_true, Bool.not_eq_true', Bool.not_eq_false', List.length_map] at *; omega) | (simp; omega))) | (first | omega | (simp only [decide_eq_true_eq, decide_eq_false_iff_not, Bool.and_eq_true, Bool.not_eq_true', Bool.not_eq_false', List.length_map] at *; omega) | (simp; omega))) (Byte.at hc ?_) | refine Byte.at hc ?_); simp only [w3, szl, aw20, List.take_succ_cons, List.take_zero, List.drop_zero, List.drop_succ_cons, List.length_map, ↓awD, awP, Nat.reduceLeDiff, Nat.reduceEqDiff, Nat.reduceAdd, Nat.zero_add, Int.cast_ofNat_Int, Int.reduceLT, Int.reduceLE, Int.reduceEq]) | (refine BrF.mk (fun hb => ?_) (fun hb => ?_) <;> (try rw [hb]) <;> simp only [w3, aw21, aw20, List.take_succ_cons, List.take_zero, List.drop_zero, List.drop_succ_cons, List.length_map, ↓awD, awP, Nat.reduceLeDiff, Nat.reduceEqDiff, Nat.reduceAdd, Nat.zero_add, Int.cast_ofNat_Int, Int.reduceLT, Int.reduceLE, Int.reduceEq]))
    all_goals (simp only [*, Bool.not_true, Bool.not_false, Bool.false_and, Bool.true_and, Bool.and_true, Bool.and_false] at hv)
    all_goals (first | (subst hv; exact Fin.end hcl rfl (by first | rfl | exact (List.append_nil _).symm | (simp only [List.append_assoc]; rfl)) ⟨rfl, rfl⟩) | exact ⟨(i + 1, ()), ⟨hi, hv⟩, by simp only; omega, weak_of (rfl) (by simp [look])⟩)
  · rintro _ hv e1
    rw [drop_len] at hv
    subst hv
    simp only [e1, szl, aw20, List.take_succ_cons, List.take_zero, List.drop_zero, List.drop_succ_cons, List.length_map, ↓awD, awP, Nat.reduceLeDiff, Nat.reduceEqDiff, Nat.reduceAdd, Nat.zero_add, Int.cast_ofNat_Int, Int.reduceLT, Int.reduceLE, Int.reduceEq]
    exact Fin.end hcl rfl (by first | rfl | exact (List.append_nil _).symm | (simp only [List.append_assoc]; rfl)) ⟨rfl, rfl⟩

theorem rises_ev (s : ByteArray) (hs : s.size < 2 ^ 60) (h : List AObj) : EvR E0 31 [str s] h (boolv (risesL s.data.toList)) := by
  refine ev_of (fn := Tryd.f31) (hs := []) Tryd.func31 c31 (by simp) fun hcl => ?_
  obtain ⟨b, rfl⟩ : ∃ b : List UInt8, s = ⟨b.toArray⟩ := ⟨s.data.toList, rfl⟩
  have hsz := szl b
  generalize hR : risesL (⟨b.toArray⟩ : ByteArray).data.toList = R
  replace hR : risesL b = R := hR
  replace hs : b.length < 2 ^ 60 := hs
  simp only [ac31, szl, aw20, List.take_succ_cons, List.take_zero, List.drop_zero, List.drop_succ_cons, List.length_map, ↓awD, awP, Nat.reduceLeDiff, Nat.reduceEqDiff, Nat.reduceAdd, Nat.zero_add, Int.cast_ofNat_Int, Int.reduceLT, Int.reduceLE, Int.reduceEq]
  refine LoopF.by (α := Nat) (fun i => ⟨[(0, str ⟨b.toArray⟩), (3, i64 (i + 1 : Nat))], h⟩) (fun i => b.length - i) (fun i => i ≤ b.length ∧ risesL (b.drop i) = R) 0 ⟨Nat.zero_le _, by simpa using hR⟩ (weak_of rfl (by simp [look])) ?_
  rintro i ⟨h1, hv⟩
  by_cases hi : i + 1 < b.length
  · obtain ⟨x, hx⟩ : ∃ x, b[i]? = some x := ⟨_, List.getElem?_eq_getElem (by omega)⟩
    obtain ⟨y, hy⟩ : ∃ y, b[i + 1]? = some y := ⟨_, List.getElem?_eq_getElem (by omega)⟩
    have e1 : decide (((i + 1 : Nat) : Int) < (b.length : Int)) = true := by rw [decide_eq_true_eq]; omega
    have w1 : IntKind.i64.wrap (((i + 1 : Nat) : Int) - 1) = (i : Int) := by rw [wrap_i64] <;> omega
    have w3 : IntKind.i64.wrap (((i + 1 : Nat) : Int) + 1) = ((i + 1 + 1 : Nat) : Int) := by rw [wrap_i64] <;> omega
    rw [drop_get hx, drop_get hy] at hv
    simp only [risesL] at hv
    rw [← drop_get hy] at hv
    simp only [e1, w1, szl, aw20, List.take_succ_cons, List.take_zero, List.drop_zero, List.drop_succ_cons, List.length_map, ↓awD, awP, Nat.reduceLeDiff, Nat.reduceEqDiff, Nat.reduceAdd, Nat.zero_add, Int.cast_ofNat_Int, Int.reduceLT, Int.reduceLE, Int.reduceEq]
    repeat' (first | ((first | refine Need.mk (by first | (constructor <;> (first | omega | (simp only [decide_eq_true_eq, decide_eq_false_iff_not, Bool.and_eq_true, Bool.not_eq_true', Bool.not_eq_false', List.length_map] at *; omega) | (simp; omega))) | (first | omega | (simp only [decide_eq_true_eq, decide_eq_false_iff_not, Bool.and_eq_true, Bool.not_eq_true', Bool.not_eq_false', List.length_map] at *; omega) | (simp; omega))) (Byte.at hx ?_) | refine Byte.at hx ?_); simp only [w3, szl, aw20, List.take_succ_cons, List.take_zero, List.drop_zero, List.drop_succ_cons, List.length_map, ↓awD, awP, Nat.reduceLeDiff, Nat.reduceEqDiff, Nat.reduceAdd, Nat.zero_add, Int.cast_ofNat_Int, Int.reduceLT, Int.reduceLE, Int.reduceEq]) | ((first | refine Need.mk (by first | (constructor <;> (first | omega | (simp only [decide_eq_true_eq, decide_eq_false_iff_not, Bool.and_eq_true, Bool.not_eq_true', Bool.not_eq_false', List.length_map] at *; omega) | (simp; omega))) | (first | omega | (simp only [decide_eq_true_eq, decide_eq_false_iff_not, Bool.and_eq_true, Bool.not_eq_true', Bool.not_eq_false', List.length_map] at *; omega) | (simp; omega))) (Byte.at hy ?_) | refine Byte.at hy ?_); simp only [w3, szl, aw20, List.take_succ_cons, List.take_zero, List.drop_zero, List.drop_succ_cons, List.length_map, ↓awD, awP, Nat.reduceLeDiff, Nat.reduceEqDiff, Nat.reduceAdd, Nat.zero_add, Int.cast_ofNat_Int, Int.reduceLT, Int.reduceLE, Int.reduceEq]) | (refine BrF.mk (fun hb => ?_) (fun hb => ?_) <;> (try rw [hb]) <;> simp only [w3, aw21, aw20, List.take_succ_cons, List.take_zero, List.drop_zero, List.drop_succ_cons, List.length_map, ↓awD, awP, Nat.reduceLeDiff, Nat.reduceEqDiff, Nat.reduceAdd, Nat.zero_add, Int.cast_ofNat_Int, Int.reduceLT, Int.reduceLE, Int.reduceEq]))
    all_goals (simp only [decide_eq_true_eq, decide_eq_false_iff_not] at hb)
    · rw [show decide ((x.toNat : Int) < (y.toNat : Int)) = false by rw [decide_eq_false_iff_not]; omega, Bool.false_and] at hv
      subst hv; exact Fin.end hcl rfl (by first | rfl | exact (List.append_nil _).symm | (simp only [List.append_assoc]; rfl)) ⟨rfl, rfl⟩
    · rw [show decide ((x.toNat : Int) < (y.toNat : Int)) = true by rw [decide_eq_true_eq]; omega, Bool.true_and] at hv
      exact ⟨i + 1, ⟨by omega, hv⟩, by omega, weak_of rfl (by simp [look])⟩
  · have e1 : decide (((i + 1 : Nat) : Int) < (b.length : Int)) = false := by rw [decide_eq_false_iff_not]; omega
    have : risesL (b.drop i) = true := by
      have hl : (b.drop i).length ≤ 1 := by simp; omega
      match h : b.drop i, hl with
      | [], _ => rfl
      | [x], _ => rfl
      | x :: y :: l, hl => simp at hl
    rw [this] at hv
    subst hv
    simp only [e1, szl, aw20, List.take_succ_cons, List.take_zero, List.drop_zero, List.drop_succ_cons, List.length_map, ↓awD, awP, Nat.reduceLeDiff, Nat.reduceEqDiff, Nat.reduceAdd, Nat.zero_add, Int.cast_ofNat_Int, Int.reduceLT, Int.reduceLE, Int.reduceEq]
    exact Fin.end hcl rfl (by first | rfl | exact (List.append_nil _).symm | (simp only [List.append_assoc]; rfl)) ⟨rfl, rfl⟩

theorem shr1 (n : Int) : decide (n.fdiv (2 ^ (min (1 : Int).toNat IntKind.i64.bits)) = 0) = (decide (n = 0) || decide (n = 1)) := by
  show decide (n.fdiv 2 = 0) = _
  rw [Int.fdiv_eq_ediv_of_nonneg n (by decide), Bool.eq_iff_iff]
  simp only [decide_eq_true_eq, Bool.or_eq_true]
  omega

theorem sdef_ev (v : Val) (hv : mxV v ≤ 2 ^ 48) (h : List AObj) : EvR E0 66 [valv v] h (boolv (okDef v)) := by
  refine ev_of (fn := Tryd.f66) (hs := []) Tryd.func66 c66 (by simp) fun hcl => ?_
  have hm := mxV_le v
  have hl1 := mxB_len v.names
  have hl2 := mxVs_len v.l
  have hw : IntKind.i64.wrap ((v.names.length : Int) + (v.l.length : Int)) = ((v.names.length + v.l.length : Nat) : Int) := by rw [wrap_i64] <;> omega
  simp only [ac66, valv_eq, hw, aw20, List.take_succ_cons, List.take_zero, List.drop_zero, List.drop_succ_cons, List.length_map, ↓awD, awP, Nat.reduceLeDiff, Nat.reduceEqDiff, Nat.reduceAdd, Nat.zero_add, Int.cast_ofNat_Int, Int.reduceLT, Int.reduceLE, Int.reduceEq]
  repeat' (first | ((first | refine EvF.ret (lower_ev v.s _ (by omega)) ?_ | refine EvRF.ret (lower_ev v.s _ (by omega)) ?_); simp only [shr1, aw21, aw20, List.take_succ_cons, List.take_zero, List.drop_zero, List.drop_succ_cons, List.length_map, ↓awD, awP, Nat.reduceLeDiff, Nat.reduceEqDiff, Nat.reduceAdd, Nat.zero_add, Int.cast_ofNat_Int, Int.reduceLT, Int.reduceLE, Int.reduceEq]) | ((first | refine EvF.ret (printable_ev v.s (by omega) _) ?_ | refine EvRF.ret (printable_ev v.s (by omega) _) ?_); simp only [shr1, aw21, aw20, List.take_succ_cons, List.take_zero, List.drop_zero, List.drop_succ_cons, List.length_map, ↓awD, awP, Nat.reduceLeDiff, Nat.reduceEqDiff, Nat.reduceAdd, Nat.zero_add, Int.cast_ofNat_Int, Int.reduceLT, Int.reduceLE, Int.reduceEq]) | (refine Need.mk (by first | decide | (first | omega | (simp only [decide_eq_true_eq, decide_eq_false_iff_not, Bool.and_eq_true, Bool.not_eq_true', Bool.not_eq_false', List.length_map] at *; omega) | (simp; omega)) | (constructor <;> (first | omega | (simp only [decide_eq_true_eq, decide_eq_false_iff_not, Bool.and_eq_true, Bool.not_eq_true', Bool.not_eq_false', List.length_map] at *; omega) | (simp; omega)))) ?_; simp only [shr1, szl, aw20, List.take_succ_cons, List.take_zero, List.drop_zero, List.drop_succ_cons, List.length_map, ↓awD, awP, Nat.reduceLeDiff, Nat.reduceEqDiff, Nat.reduceAdd, Nat.zero_add, Int.cast_ofNat_Int, Int.reduceLT, Int.reduceLE, Int.reduceEq]) | (refine BrF.mk (fun hb => ?_) (fun hb => ?_) <;> (try rw [hb]) <;> simp only [shr1, aw21, aw20, List.take_succ_cons, List.take_zero, List.drop_zero, List.drop_succ_cons, List.length_map, ↓awD, awP, Nat.reduceLeDiff, Nat.reduceEqDiff, Nat.reduceAdd, Nat.zero_add, Int.cast_ofNat_Int, Int.reduceLT, Int.reduceLE, Int.reduceEq]))
  all_goals (refine Fin.end hcl rfl (by first | rfl | exact (List.append_nil _).symm | (simp only [List.append_assoc]; rfl)) ⟨?_, rfl⟩; first | rfl | ((try simp only [dnat, decide_eq_true_eq, decide_eq_false_iff_not, List.length_eq_zero_iff, List.length_pos_iff] at *); first | (simp [*, okDef, least, lowr]; done) | (simp [*, okDef, least, lowr]; omega) | (clear hcl; simp [*, okDef, least, lowr] <;> grind) | (simp [*, okDef, least, lowr])))

theorem wordsn_ev (s : ByteArray) (hs : s.size < 2 ^ 60) (h : List AObj) : EvR E0 52 [str s] h (boolv (!lowr s)) := by
  refine ev_of (fn := Tryd.f52) (hs := []) Tryd.func52 c52 (by simp) fun hcl => ?_
  simp only [ac52, aw20, List.take_succ_cons, List.take_zero, List.drop_zero, List.drop_succ_cons, List.length_map, ↓awD, awP, Nat.reduceLeDiff, Nat.reduceEqDiff, Nat.reduceAdd, Nat.zero_add, Int.cast_ofNat_Int, Int.reduceLT, Int.reduceLE, Int.reduceEq]
  repeat' (first | ((first | refine EvF.ret (lower_ev s _ hs) ?_ | refine EvRF.ret (lower_ev s _ hs) ?_); simp only [aw21, aw21, aw20, List.take_succ_cons, List.take_zero, List.drop_zero, List.drop_succ_cons, List.length_map, ↓awD, awP, Nat.reduceLeDiff, Nat.reduceEqDiff, Nat.reduceAdd, Nat.zero_add, Int.cast_ofNat_Int, Int.reduceLT, Int.reduceLE, Int.reduceEq]) | (refine BrF.mk (fun hb => ?_) (fun hb => ?_) <;> (try rw [hb]) <;> simp only [aw21, aw21, aw20, List.take_succ_cons, List.take_zero, List.drop_zero, List.drop_succ_cons, List.length_map, ↓awD, awP, Nat.reduceLeDiff, Nat.reduceEqDiff, Nat.reduceAdd, Nat.zero_add, Int.cast_ofNat_Int, Int.reduceLT, Int.reduceLE, Int.reduceEq]))
  all_goals (refine Fin.end hcl rfl (by first | rfl | exact (List.append_nil _).symm | (simp only [List.append_assoc]; rfl)) ⟨?_, rfl⟩; first | rfl | ((try simp only [dnat, decide_eq_true_eq, decide_eq_false_iff_not, List.length_eq_zero_iff, List.length_pos_iff] at *); first | (simp [*, lowr]; done) | (simp [*, lowr]; omega) | (clear hcl; simp [*, lowr] <;> grind) | (simp [*, lowr])))
theorem words_ev (l : List ByteArray) (hl : mxB l ≤ 2 ^ 48) (h : List AObj) : EvR E0 32 [strl l] h (boolv (wordsOk l)) := by
  refine ev_of (fn := Tryd.f32) (hs := []) Tryd.func32 c32 (by simp) fun hcl => ?_
  have hl1 := mxB_len l
  have hany := str_any l 52 [] (fun s => !lowr s) h (by omega) (fun s hs => wordsn_ev s (by have := mxB_mem hs; omega) h)
  simp only [ac32, aw20, List.take_succ_cons, List.take_zero, List.drop_zero, List.drop_succ_cons, List.length_map, ↓awD, awP, Nat.reduceLeDiff, Nat.reduceEqDiff, Nat.reduceAdd, Nat.zero_add, Int.cast_ofNat_Int, Int.reduceLT, Int.reduceLE, Int.reduceEq]
  repeat' (first | ((first | refine EvF.ret (hany) ?_ | refine EvRF.ret (hany) ?_); simp only [aw21, aw21, aw20, List.take_succ_cons, List.take_zero, List.drop_zero, List.drop_succ_cons, List.length_map, ↓awD, awP, Nat.reduceLeDiff, Nat.reduceEqDiff, Nat.reduceAdd, Nat.zero_add, Int.cast_ofNat_Int, Int.reduceLT, Int.reduceLE, Int.reduceEq]) | (refine BrF.mk (fun hb => ?_) (fun hb => ?_) <;> (try rw [hb]) <;> simp only [aw21, aw21, aw20, List.take_succ_cons, List.take_zero, List.drop_zero, List.drop_succ_cons, List.length_map, ↓awD, awP, Nat.reduceLeDiff, Nat.reduceEqDiff, Nat.reduceAdd, Nat.zero_add, Int.cast_ofNat_Int, Int.reduceLT, Int.reduceLE, Int.reduceEq]))
  all_goals (refine Fin.end hcl rfl (by first | rfl | exact (List.append_nil _).symm | (simp only [List.append_assoc]; rfl)) ⟨?_, rfl⟩; first | rfl | ((try simp only [dnat, decide_eq_true_eq, decide_eq_false_iff_not, List.length_eq_zero_iff, List.length_pos_iff] at *); first | (simp [*, wordsOk]; done) | (simp [*, wordsOk]; omega) | (clear hcl; simp [*, wordsOk] <;> grind) | (simp [*, wordsOk])))
end Go.Abs.Fr

namespace Go.Abs.Fr
open Go Go.Abs Go.Proofs
set_option linter.unusedSimpArgs false
set_option maxRecDepth 100000

/-- spandrel/shape.ConText -/
def ac15 : ACode := (.seq (.region [⟨(some 1), (.box (.tmp 0)), none⟩, ⟨(some 2), (.move (.const (.string (⟨#[]⟩ : ByteArray)))), none⟩]) (.seq (.seq (.region [⟨(some 4), (.fieldAddr 0 (.tmp 1)), none⟩, ⟨(some 5), (.load none (.tmp 4)), none⟩, ⟨(some 6), (.bin .eql (.tmp 5) (.const (.int .i64 0))), none⟩, ⟨(some 7), (.move (.tmp 6)), none⟩, ⟨(some 8), (.load (some 6) (.tmp 1)), (some (7, false))⟩, ⟨(some 9), (.call (.func 13) [((.tmp 8), false)]), (some (7, false))⟩, ⟨(some 10), (.un .not (.tmp 9)), (some (7, false))⟩, ⟨(some 11), (.pick (.tmp 7) (.const (.bool true)) (.tmp 10)), none⟩]) (.cond (.tmp 11) (.seq (.region [⟨(some 2), (.move (.const (.string (⟨#[]⟩ : ByteArray)))), none⟩]) .ret) .skip)) (.seq (.region [⟨(some 12), (.build [(.lit (.pointer none)), (.lit (.slice none 0 0))] []), none⟩, ⟨(some 13), (.boxB 54 5 (.tmp 12)), none⟩, ⟨(some 3), (.move (.tmp 13)), none⟩]) (.seq (.region [⟨(some 14), (.move (.tmp 3)), none⟩, ⟨(some 15), (.load (some 6) (.tmp 1)), none⟩, ⟨(some 16), (.call (.func 27) [((.tmp 14), false), ((.tmp 15), false)]), none⟩]) (.seq (.region [⟨(some 17), (.move (.tmp 3)), none⟩, ⟨(some 18), (.nilCheck (.tmp 17)), none⟩, ⟨(some 19), (.fieldAddr 0 (.tmp 18)), none⟩, ⟨(some 20), (.call (.func 23) [((.tmp 19), false)]), none⟩, ⟨(some 2), (.move (.tmp 20)), none⟩]) .ret)))))
theorem c15 : cfn E0.P [(3, 0), (3, 1)] Tryd.f15 = some (ac15, [(.tmp 2)], 21) := by kernel_rfl
/-- (*spandrel/shape.writer).con -/
def ac27 : ACode := (.seq (.region [⟨(some 3), (.box (.tmp 1)), none⟩]) (.seq (.seq (.region [⟨(some 7), (.fieldAddr 0 (.tmp 3)), none⟩, ⟨(some 8), (.load none (.tmp 7)), none⟩, ⟨(some 9), (.bin .eql (.tmp 8) (.const (.int .i64 1))), none⟩]) (.cond (.tmp 9) (.seq (.region [⟨(some 10), (.move (.tmp 0)), none⟩, ⟨(some 11), (.load (some 6) (.tmp 3)), none⟩, ⟨(some 12), (.call (.func 49) [((.tmp 10), false), ((.tmp 11), false)]), none⟩]) .ret) .skip)) (.seq (.region [⟨(some 4), (.move (.const (.string (⟨#[32, 124, 32]⟩ : ByteArray)))), none⟩]) (.seq (.seq (.region [⟨(some 13), (.fieldAddr 0 (.tmp 3)), none⟩, ⟨(some 14), (.load none (.tmp 13)), none⟩]) (.block 0 (.seq (.region [⟨(some 16), (.bin .eql (.tmp 14) (.const (.int .i64 3))), none⟩, ⟨(some 15), (.move (.tmp 16)), none⟩]) (.cond (.tmp 15) (.region [⟨(some 4), (.move (.const (.string (⟨#[32, 94, 32]⟩ : ByteArray)))), none⟩]) (.seq (.region [⟨(some 18), (.bin .eql (.tmp 14) (.const (.int .i64 4))), none⟩, ⟨(some 17), (.move (.tmp 18)), none⟩]) (.cond (.tmp 17) (.region [⟨(some 4), (.move (.const (.string (⟨#[32, 69, 88, 67, 69, 80, 84, 32]⟩ : ByteArray)))), none⟩]) .skip)))))) (.seq (.region [⟨(some 19), (.fieldAddr 5 (.tmp 3)), none⟩, ⟨(some 20), (.load none (.tmp 19)), none⟩, ⟨(some 21), (.len false (.tmp 20)), none⟩, ⟨(some 22), (.move (.const (.int .i64 0))), none⟩]) (.block 1 (.loop (.seq (.region [⟨(some 23), (.bin .lss (.tmp 22) (.tmp 21)), none⟩]) (.seq (.cond (.tmp 23) .skip (.exit 1)) (.seq (.block 2 (.seq (.region [⟨(some 24), (.move (.tmp 22)), none⟩, ⟨(some 25), (.indexAddr 6 (.tmp 20) (.tmp 22)), none⟩, ⟨(some 26), (.load (some 6) (.tmp 25)), none⟩, ⟨(some 6), (.alloc [(.lit (.int .i64 0)), (.lit (.int .i64 0)), (.lit (.int .i64 0)), (.lit (.bool false)), (.lit (.bool false)), (.sl .full [])]), none⟩, ⟨(some 5), (.move (.tmp 24)), none⟩, ⟨none, (.store 6 (.tmp 6) (.tmp 26)), none⟩]) (.seq (.seq (.region [⟨(some 27), (.move (.tmp 5)), none⟩, ⟨(some 28), (.bin .gtr (.tmp 27) (.const (.int .i64 0))), none⟩]) (.cond (.tmp 28) (.region [⟨(some 29), (.move (.tmp 0)), none⟩, ⟨(some 30), (.move (.tmp 4)), none⟩, ⟨(some 31), (.buildSlice false 1 [(.lit (.string (⟨#[]⟩ : ByteArray)))] 1 [(0, (.tmp 30))]), none⟩, ⟨(some 32), (.call (.func 40) [((.tmp 29), false), ((.tmp 31), false)]), none⟩]) .skip)) (.seq (.seq (.region [⟨(some 33), (.fieldAddr 0 (.tmp 6)), none⟩, ⟨(some 34), (.load none (.tmp 33)), none⟩, ⟨(some 35), (.bin .eql (.tmp 34) (.const (.int .i64 1))), none⟩]) (.cond (.tmp 35) (.seq (.region [⟨(some 36), (.move (.tmp 0)), none⟩, ⟨(some 37), (.load (some 6) (.tmp 6)), none⟩, ⟨(some 38), (.call (.func 27) [((.tmp 36), false), ((.tmp 37), false)]), none⟩]) (.exit 2)) .skip)) (.seq (.region [⟨(some 39), (.move (.tmp 0)), none⟩, ⟨(some 40), (.buildSlice false 1 [(.lit (.string (⟨#[]⟩ : ByteArray)))] 1 [(0, (.const (.string (⟨#[40]⟩ : ByteArray))))]), none⟩, ⟨(some 41), (.call (.func 40) [((.tmp 39), false), ((.tmp 40), false)]), none⟩]) (.seq (.region [⟨(some 42), (.move (.tmp 0)), none⟩, ⟨(some 43), (.load (some 6) (.tmp 6)), none⟩, ⟨(some 44), (.call (.func 27) [((.tmp 42), false), ((.tmp 43), false)]), none⟩]) (.region [⟨(some 45), (.move (.tmp 0)), none⟩, ⟨(some 46), (.buildSlice false 1 [(.lit (.string (⟨#[]⟩ : ByteArray)))] 1 [(0, (.const (.string (⟨#[41]⟩ : ByteArray))))]), none⟩, ⟨(some 47), (.call (.func 40) [((.tmp 45), false), ((.tmp 46), false)]), none⟩]))))))) (.region [⟨(some 48), (.bin .add (.tmp 22) (.const (.int .i64 1))), none⟩, ⟨(some 22), (.move (.tmp 48)), none⟩])))))))))))
theorem c27 : cfn E0.P [] Tryd.f27 = some (ac27, [], 49) := by kernel_rfl
/-- (*spandrel/shape.writer).span -/
def ac49 : ACode := (.seq (.region [⟨(some 3), (.box (.tmp 1)), none⟩]) (.seq (.draw [⟨(some 6), (.fieldAddr 1 (.tmp 3)), none⟩, ⟨(some 7), (.load none (.tmp 6)), none⟩, ⟨(some 8), (.call (.func 62) [((.tmp 7), false)]), none⟩, ⟨(some 9), (.fieldAddr 2 (.tmp 3)), none⟩, ⟨(some 10), (.load none (.tmp 9)), none⟩, ⟨(some 11), (.call (.func 62) [((.tmp 10), false)]), none⟩, ⟨(some 4), (.move (.tmp 8)), none⟩, ⟨(some 5), (.move (.tmp 11)), none⟩]) (.seq (.seq (.region [⟨(some 12), (.fieldAddr 3 (.tmp 3)), none⟩, ⟨(some 13), (.load none (.tmp 12)), none⟩]) (.cond (.tmp 13) (.region [⟨(some 4), (.move (.const (.string (⟨#[77, 73, 78]⟩ : ByteArray)))), none⟩]) .skip)) (.seq (.seq (.region [⟨(some 14), (.fieldAddr 4 (.tmp 3)), none⟩, ⟨(some 15), (.load none (.tmp 14)), none⟩]) (.cond (.tmp 15) (.region [⟨(some 5), (.move (.const (.string (⟨#[77, 65, 88]⟩ : ByteArray)))), none⟩]) .skip)) (.seq (.region [⟨(some 16), (.move (.tmp 0)), none⟩, ⟨(some 17), (.move (.tmp 4)), none⟩, ⟨(some 18), (.buildSlice false 1 [(.lit (.string (⟨#[]⟩ : ByteArray)))] 1 [(0, (.tmp 17))]), none⟩, ⟨(some 19), (.call (.func 40) [((.tmp 16), false), ((.tmp 18), false)]), none⟩]) (.seq (.region [⟨(some 20), (.fieldAddr 3 (.tmp 3)), none⟩, ⟨(some 21), (.load none (.tmp 20)), none⟩, ⟨(some 22), (.move (.tmp 21)), none⟩, ⟨(some 23), (.fieldAddr 4 (.tmp 3)), (some (22, false))⟩, ⟨(some 24), (.load none (.tmp 23)), (some (22, false))⟩, ⟨(some 25), (.pick (.tmp 22) (.const (.bool true)) (.tmp 24)), none⟩, ⟨(some 26), (.move (.tmp 25)), none⟩, ⟨(some 27), (.fieldAddr 1 (.tmp 3)), (some (26, false))⟩, ⟨(some 28), (.load none (.tmp 27)), (some (26, false))⟩, ⟨(some 29), (.fieldAddr 2 (.tmp 3)), (some (26, false))⟩, ⟨(some 30), (.load none (.tmp 29)), (some (26, false))⟩, ⟨(some 31), (.bin .neq (.tmp 28) (.tmp 30)), (some (26, false))⟩, ⟨(some 32), (.pick (.tmp 26) (.const (.bool true)) (.tmp 31)), none⟩]) (.cond (.tmp 32) (.region [⟨(some 33), (.move (.tmp 0)), none⟩, ⟨(some 34), (.move (.tmp 5)), none⟩, ⟨(some 35), (.buildSlice false 1 [(.lit (.string (⟨#[]⟩ : ByteArray)))] 2 [(0, (.const (.string (⟨#[46, 46]⟩ : ByteArray)))), (1, (.tmp 34))]), none⟩, ⟨(some 36), (.call (.func 40) [((.tmp 33), false), ((.tmp 35), false)]), none⟩]) .skip)))))))
theorem c49 : cfn E0.P [] Tryd.f49 = some (ac49, [], 37) := by kernel_rfl

/-! ### The text -/
def spanT (lo hi : Int) (low high : Bool) : List UInt8 :=
  (if low then [77, 73, 78] else Lib.itoa lo) ++ (if low || (high || !decide (lo = hi)) then [46, 46] ++ (if high then [77, 65, 88] else Lib.itoa hi) else [])
def sepC (op : Int) : List UInt8 := if op = 3 then [32, 94, 32] else if op = 4 then [32, 69, 88, 67, 69, 80, 84, 32] else [32, 124, 32]
def sepT (sep : List UInt8) : List (List UInt8) → List UInt8
  | [] => []
  | x :: l => x ++ l.flatMap (sep ++ ·)
theorem sepT_snoc (sep : List UInt8) (l : List (List UInt8)) (x : List UInt8) : sepT sep (l ++ [x]) = sepT sep l ++ ((if l.length = 0 then [] else sep) ++ x) := by
  cases l with
  | nil => simp [sepT]
  | cons a l => simp [sepT]
mutual
def conT : Con → List UInt8
  | .mk o a b c d l _ => if o = 1 then spanT a b c d else sepT (sepC o) (conTs l)
def conTs : List Con → List (List UInt8)
  | [] => []
  | c :: l => (if c.op = 1 then conT c else 40 :: (conT c ++ [41])) :: conTs l
end
def itemC (c : Con) : List UInt8 := if c.op = 1 then conT c else 40 :: (conT c ++ [41])
theorem conTs_map : ∀ (l : List Con), conTs l = l.map itemC
  | [] => rfl
  | c :: l => by simp only [conTs, List.map_cons, conTs_map l, itemC]
theorem conT_eq (c : Con) : conT c = if c.op = 1 then spanT c.lo c.hi c.low c.high else sepT (sepC c.op) (c.l.map itemC) := by
  cases c; simp only [conT, conTs_map]; rfl
theorem sep_take (sep : List UInt8) (l : List Con) (i : Nat) (x : Con) (h : l[i]? = some x) : sepT sep ((l.take (i + 1)).map itemC) = sepT sep ((l.take i).map itemC) ++ ((if i = 0 then [] else sep) ++ itemC x) := by
  obtain ⟨hi, he⟩ := List.getElem?_eq_some_iff.1 h
  rw [List.take_succ_eq_append_getElem hi, he, List.map_append, List.map_cons, List.map_nil, sepT_snoc]
  simp only [List.length_map, List.length_take]
  congr 3
  rw [eq_iff_iff]; omega
theorem sepT_le (sep : List UInt8) : ∀ (l : List (List UInt8)) (i : Nat), (sepT sep (l.take i)).length ≤ (sepT sep l).length
  | [], i => by simp
  | x :: l, 0 => by simp [sepT]
  | x :: l, i + 1 => by
    have : l.flatMap (sep ++ ·) = (l.take i).flatMap (sep ++ ·) ++ (l.drop i).flatMap (sep ++ ·) := by rw [← List.flatMap_append, List.take_append_drop]
    simp only [List.take_succ_cons, sepT, List.length_append]
    rw [this, List.length_append]; omega
theorem spanT_len (lo hi : Int) (low high : Bool) (h1 : InR lo) (h2 : InR hi) : (spanT lo hi low high).length ≤ 50 := by
  have a := Lib.itoa_length_le lo h1.1 h1.2
  have b := Lib.itoa_length_le hi h2.1 h2.2
  unfold spanT
  split <;> split <;> (try split) <;> simp only [List.length_append, List.length_cons, List.length_nil] <;> omega

theorem span_ev {h : List AObj} {id : Nat} {out : List UInt8} (hid : id < h.length) (c : Con) (hlen : out.length + 100 ≤ 140737488355328) :
    Ev E0 49 [.ref id 0, conv c] (hw h id out) (fun r h' => r = .ret (.tup []) ∧ h' = hw h id (out ++ spanT c.lo c.hi c.low c.high)) := by
  refine ev_of (fn := Tryd.f49) (hs := []) Tryd.func49 c49 (by simp) fun hcl => ?_
  have hk := c.ok
  have i1 := fun h => itoa_ev c.lo hk.2.1.1 hk.2.1.2 h
  have i2 := fun h => itoa_ev c.hi hk.2.2.1 hk.2.2.2 h
  have l1 := Lib.itoa_length_le c.lo hk.2.1.1 hk.2.1.2
  have l2 := Lib.itoa_length_le c.hi hk.2.2.1 hk.2.2.2
  simp only [ac49, conv_eq, hw_len, hw_set, hw_app, hw_get, hw_ne, hw_setk, getC, getC2, hid, hL1 hid, hL2 hid, hL3 hid, hL4 hid, aw20, List.take_succ_cons, List.take_zero, List.drop_zero, List.drop_succ_cons, List.length_map, ↓awD, awP, Nat.reduceLeDiff, Nat.reduceEqDiff, Nat.reduceAdd, Nat.zero_add, Int.cast_ofNat_Int, Int.reduceLT, Int.reduceLE, Int.reduceEq]
  repeat' (first | ((first | refine EvF.ret (i1 _) ?_ | refine EvRF.ret (i1 _) ?_); simp only [aw21, hw_len, hw_set, hw_app, hw_get, hw_ne, hw_setk, getC, getC2, hid, hL1 hid, hL2 hid, hL3 hid, hL4 hid, aw21, aw20, List.take_succ_cons, List.take_zero, List.drop_zero, List.drop_succ_cons, List.length_map, ↓awD, awP, Nat.reduceLeDiff, Nat.reduceEqDiff, Nat.reduceAdd, Nat.zero_add, Int.cast_ofNat_Int, Int.reduceLT, Int.reduceLE, Int.reduceEq]) | ((first | refine EvF.ret (i2 _) ?_ | refine EvRF.ret (i2 _) ?_); simp only [aw21, hw_len, hw_set, hw_app, hw_get, hw_ne, hw_setk, getC, getC2, hid, hL1 hid, hL2 hid, hL3 hid, hL4 hid, aw21, aw20, List.take_succ_cons, List.take_zero, List.drop_zero, List.drop_succ_cons, List.length_map, ↓awD, awP, Nat.reduceLeDiff, Nat.reduceEqDiff, Nat.reduceAdd, Nat.zero_add, Int.cast_ofNat_Int, Int.reduceLT, Int.reduceLE, Int.reduceEq]) | (refine Need.mk (by simp only [litParts, List.mem_cons, List.not_mem_nil, or_false, forall_eq_or_imp, forall_eq]; refine ⟨by decide, by decide, by decide, ?_⟩; repeat' (first | exact ⟨rfl, rfl, rfl⟩ | rfl | constructor)) ?_; simp only [aw21, hw_len, hw_set, hw_app, hw_get, hw_ne, hw_setk, getC, getC2, hid, hL1 hid, hL2 hid, hL3 hid, hL4 hid, aw20, List.take_succ_cons, List.take_zero, List.drop_zero, List.drop_succ_cons, List.length_map, ↓awD, awP, Nat.reduceLeDiff, Nat.reduceEqDiff, Nat.reduceAdd, Nat.zero_add, Int.cast_ofNat_Int, Int.reduceLT, Int.reduceLE, Int.reduceEq]) | (refine BrF.mk (fun hb => ?_) (fun hb => ?_) <;> (try rw [hb]) <;> simp only [aw21, hw_len, hw_set, hw_app, hw_get, hw_ne, hw_setk, getC, getC2, hid, hL1 hid, hL2 hid, hL3 hid, hL4 hid, aw21, aw20, List.take_succ_cons, List.take_zero, List.drop_zero, List.drop_succ_cons, List.length_map, ↓awD, awP, Nat.reduceLeDiff, Nat.reduceEqDiff, Nat.reduceAdd, Nat.zero_add, Int.cast_ofNat_Int, Int.reduceLT, Int.reduceLE, Int.reduceEq]) | (refine EvF.use (put_ev (by first | exact hid | (simp only [List.length_append]; omega)) [⟨#[77, 73, 78]⟩] (by simp) (by first | omega | (simp only [tx_cons, tx_nil, List.length_append, List.length_cons, List.length_nil] at *; omega))) ?_; rintro r h' ⟨rfl, rfl⟩; simp only [aw21, tx_cons, tx_nil, List.append_nil, hw_len, hw_set, hw_app, hw_get, hw_ne, hw_setk, getC, getC2, hid, hL1 hid, hL2 hid, hL3 hid, hL4 hid, aw20, List.take_succ_cons, List.take_zero, List.drop_zero, List.drop_succ_cons, List.length_map, ↓awD, awP, Nat.reduceLeDiff, Nat.reduceEqDiff, Nat.reduceAdd, Nat.zero_add, Int.cast_ofNat_Int, Int.reduceLT, Int.reduceLE, Int.reduceEq]) | (refine EvF.use (put_ev (by first | exact hid | (simp only [List.length_append]; omega)) [⟨(Lib.itoa c.lo).toArray⟩] (by simp) (by first | omega | (simp only [tx_cons, tx_nil, List.length_append, List.length_cons, List.length_nil] at *; omega))) ?_; rintro r h' ⟨rfl, rfl⟩; simp only [aw21, tx_cons, tx_nil, List.append_nil, hw_len, hw_set, hw_app, hw_get, hw_ne, hw_setk, getC, getC2, hid, hL1 hid, hL2 hid, hL3 hid, hL4 hid, aw20, List.take_succ_cons, List.take_zero, List.drop_zero, List.drop_succ_cons, List.length_map, ↓awD, awP, Nat.reduceLeDiff, Nat.reduceEqDiff, Nat.reduceAdd, Nat.zero_add, Int.cast_ofNat_Int, Int.reduceLT, Int.reduceLE, Int.reduceEq]) | (refine EvF.use (put_ev (by first | exact hid | (simp only [List.length_append]; omega)) [⟨#[46, 46]⟩, ⟨#[77, 65, 88]⟩] (by simp) (by first | omega | (simp only [tx_cons, tx_nil, List.length_append, List.length_cons, List.length_nil] at *; omega))) ?_; rintro r h' ⟨rfl, rfl⟩; simp only [aw21, tx_cons, tx_nil, List.append_nil, hw_len, hw_set, hw_app, hw_get, hw_ne, hw_setk, getC, getC2, hid, hL1 hid, hL2 hid, hL3 hid, hL4 hid, aw20, List.take_succ_cons, List.take_zero, List.drop_zero, List.drop_succ_cons, List.length_map, ↓awD, awP, Nat.reduceLeDiff, Nat.reduceEqDiff, Nat.reduceAdd, Nat.zero_add, Int.cast_ofNat_Int, Int.reduceLT, Int.reduceLE, Int.reduceEq]) | (refine EvF.use (put_ev (by first | exact hid | (simp only [List.length_append]; omega)) [⟨#[46, 46]⟩, ⟨(Lib.itoa c.hi).toArray⟩] (by simp) (by first | omega | (simp only [tx_cons, tx_nil, List.length_append, List.length_cons, List.length_nil] at *; omega))) ?_; rintro r h' ⟨rfl, rfl⟩; simp only [aw21, tx_cons, tx_nil, List.append_nil, hw_len, hw_set, hw_app, hw_get, hw_ne, hw_setk, getC, getC2, hid, hL1 hid, hL2 hid, hL3 hid, hL4 hid, aw20, List.take_succ_cons, List.take_zero, List.drop_zero, List.drop_succ_cons, List.length_map, ↓awD, awP, Nat.reduceLeDiff, Nat.reduceEqDiff, Nat.reduceAdd, Nat.zero_add, Int.cast_ofNat_Int, Int.reduceLT, Int.reduceLE, Int.reduceEq]))
  all_goals (refine Fin.hw hid hcl rfl (by first | rfl | exact (List.append_nil _).symm | (simp only [List.append_assoc]; rfl)) ⟨rfl, ?_⟩; (try simp only [dnat, decide_eq_true_eq, decide_eq_false_iff_not, List.length_eq_zero_iff, List.length_pos_iff] at *) <;> simp [*, spanT])

set_option maxHeartbeats 2000000 in
theorem wcon_ev : ∀ (k : Nat) (c : Con), szC c ≤ k → mxC c ≤ 2 ^ 48 → ∀ {h : List AObj} {id : Nat} {out : List UInt8} (_ : id < h.length) (_ : out.length + (conT c).length + 100 ≤ 140737488355328),
    Ev E0 27 [.ref id 0, conv c] (hw h id out) (fun r h' => r = .ret (.tup []) ∧ h' = hw h id (out ++ conT c)) := by
  intro k
  induction k using Nat.strongRecOn with
  | _ k ih =>
    intro c hk hm h id out hid hlen
    refine ev_of (fn := Tryd.f27) (hs := []) Tryd.func27 c27 (by simp) fun hcl => ?_
    have hmx := mxC_eq c
    have hsz := szC_eq c
    have hln := mxCs_len c.l
    rw [conT_eq] at hlen ⊢
    by_cases h1 : c.op = 1
    · rw [if_pos h1] at hlen ⊢
      have d1 : decide (c.op = 1) = true := by rw [decide_eq_true_eq]; exact h1
      have hsp := fun (B : List AObj) (hB : id < B.length) => span_ev (h := B) (id := id) (out := out) hB c (by omega)
      simp only [conv_eq] at hsp
      simp only [ac27, conv_eq, d1, hw_len, hw_set, hw_app, hw_get, hw_ne, hw_setk, getC, getC2, hid, hL1 hid, hL2 hid, hL3 hid, hL4 hid, aw20, List.take_succ_cons, List.take_zero, List.drop_zero, List.drop_succ_cons, List.length_map, ↓awD, awP, Nat.reduceLeDiff, Nat.reduceEqDiff, Nat.reduceAdd, Nat.zero_add, Int.cast_ofNat_Int, Int.reduceLT, Int.reduceLE, Int.reduceEq]
      (refine EvF.use (hsp _ (hL1 hid _)) ?_; rintro r h' ⟨rfl, rfl⟩; simp only [d1, hw_len, hw_set, hw_app, hw_get, hw_ne, hw_setk, getC, getC2, hid, hL1 hid, hL2 hid, hL3 hid, hL4 hid, aw20, List.take_succ_cons, List.take_zero, List.drop_zero, List.drop_succ_cons, List.length_map, ↓awD, awP, Nat.reduceLeDiff, Nat.reduceEqDiff, Nat.reduceAdd, Nat.zero_add, Int.cast_ofNat_Int, Int.reduceLT, Int.reduceLE, Int.reduceEq])
      all_goals (refine Fin.hw hid hcl rfl (by first | rfl | exact (List.append_nil _).symm | (simp only [List.append_assoc]; rfl)) ⟨rfl, ?_⟩; (try simp only [dnat, decide_eq_true_eq, decide_eq_false_iff_not, List.length_eq_zero_iff, List.length_pos_iff] at *) <;> simp [*, aw21])
    · rw [if_neg h1] at hlen ⊢
      have d1 : decide (c.op = 1) = false := by rw [decide_eq_false_iff_not]; exact h1
      simp only [ac27, conv_eq, d1, hw_len, hw_set, hw_app, hw_get, hw_ne, hw_setk, getC, getC2, hid, hL1 hid, hL2 hid, hL3 hid, hL4 hid, aw20, List.take_succ_cons, List.take_zero, List.drop_zero, List.drop_succ_cons, List.length_map, ↓awD, awP, Nat.reduceLeDiff, Nat.reduceEqDiff, Nat.reduceAdd, Nat.zero_add, Int.cast_ofNat_Int, Int.reduceLT, Int.reduceLE, Int.reduceEq]
      repeat' (refine BrF.mk (fun hb => ?_) (fun hb => ?_) <;> (try rw [hb]) <;> simp only [aw21, hw_len, hw_set, hw_app, hw_get, hw_ne, hw_setk, getC, getC2, hid, hL1 hid, hL2 hid, hL3 hid, hL4 hid, aw21, aw20, List.take_succ_cons, List.take_zero, List.drop_zero, List.drop_succ_cons, List.length_map, ↓awD, awP, Nat.reduceLeDiff, Nat.reduceEqDiff, Nat.reduceAdd, Nat.zero_add, Int.cast_ofNat_Int, Int.reduceLT, Int.reduceLE, Int.reduceEq])
      all_goals (try simp only [decide_eq_true_eq, decide_eq_false_iff_not] at *)
      all_goals refine LoopF.list c.l (by omega) (γ := List AObj) (fun i J => ⟨[(0, .ref id 0), (4, str ⟨(sepC c.op).toArray⟩), (20, conl c.l), (21, i64 c.l.length), (22, i64 i)],
        hw (h ++ [AObj.cells [i64 c.op, i64 c.lo, i64 c.hi, boolv c.low, boolv c.high, conl c.l]] ++ J) id (out ++ sepT (sepC c.op) ((c.l.take i).map itemC))⟩) (fun _ _ => True) [] trivial (weak_of (by simp [sepT]) (by simp [look, sepC, *])) ?_ ?_
      all_goals first
        | (rintro J _ e1
           rw [take_len]
           simp only [e1, hw_len, hw_set, hw_app, hw_get, hw_ne, hw_setk, getC, getC2, hid, hL1 hid, hL2 hid, hL3 hid, hL4 hid, aw20, List.take_succ_cons, List.take_zero, List.drop_zero, List.drop_succ_cons, List.length_map, ↓awD, awP, Nat.reduceLeDiff, Nat.reduceEqDiff, Nat.reduceAdd, Nat.zero_add, Int.cast_ofNat_Int, Int.reduceLT, Int.reduceLE, Int.reduceEq]
           refine Fin.hw (J := [AObj.cells [i64 c.op, i64 c.lo, i64 c.hi, boolv c.low, boolv c.high, conl c.l]] ++ J) hid hcl rfl (by simp only [List.append_assoc]) ⟨rfl, rfl⟩)
        | skip
      all_goals (rintro i x J hx _ hi e1 w3)
      all_goals (have hga := map_get conv c.l i x hx)
      all_goals (have hmem := List.mem_of_getElem? hx; have hmm := mxCs_mem hmem; have hzz := szCs_mem hmem)
      all_goals (have htk := sep_take (sepC c.op) c.l i x hx; have hle := sepT_le (sepC c.op) (c.l.map itemC) (i + 1))
      all_goals (rw [← List.map_take, htk] at hle; simp only [List.length_append] at hle)
      all_goals (have hcx := fun (B : List AObj) (o : List UInt8) (hB : id < B.length) (ho : o.length + (conT x).length + 100 ≤ 140737488355328) => ih (szC x) (by omega) x (Nat.le_refl _) (by omega) (h := B) (id := id) (out := o) hB ho)
      all_goals (simp only [conv_eq] at hcx)
      all_goals (by_cases hx1 : x.op = 1)
      all_goals (by_cases hi0 : i = 0)
      all_goals first | have dx' : decide (x.op = 1) = true := decide_eq_true hx1 | have dx' : decide (x.op = 1) = false := decide_eq_false hx1
      all_goals (have d0 : decide ((0 : Int) < (i : Int)) = decide (0 < i) := by rw [decide_eq_decide]; omega)
      all_goals (first | rw [show decide (0 < i) = false by rw [decide_eq_false_iff_not]; omega] at d0 | rw [show decide (0 < i) = true by rw [decide_eq_true_eq]; omega] at d0)
      all_goals first | rw [if_pos hi0] at htk hle | rw [if_neg hi0] at htk hle
      all_goals (simp only [itemC] at htk hle)
      all_goals first | rw [if_pos hx1] at htk hle | rw [if_neg hx1] at htk hle
      all_goals (try simp only [List.length_nil, List.nil_append, List.length_cons, List.length_append] at htk hle)
      all_goals (simp only [e1, d0, dx', hw_len, hw_set, hw_app, hw_get, hw_ne, hw_setk, getC, getC2, hid, hL1 hid, hL2 hid, hL3 hid, hL4 hid, aw20, List.take_succ_cons, List.take_zero, List.drop_zero, List.drop_succ_cons, List.length_map, ↓awD, awP, Nat.reduceLeDiff, Nat.reduceEqDiff, Nat.reduceAdd, Nat.zero_add, Int.cast_ofNat_Int, Int.reduceLT, Int.reduceLE, Int.reduceEq])
      all_goals repeat' (first | ((first | refine Need.mk (by first | (first | omega | (simp only [decide_eq_true_eq, decide_eq_false_iff_not, Bool.and_eq_true, Bool.not_eq_true', Bool.not_eq_false', List.length_map] at *; omega) | (simp; omega)) | (constructor <;> (first | omega | (simp only [decide_eq_true_eq, decide_eq_false_iff_not, Bool.and_eq_true, Bool.not_eq_true', Bool.not_eq_false', List.length_map] at *; omega) | (simp; omega)))) (Elem.recs hga (by first | (rw [conv_eq]; exact ⟨rfl, rfl⟩) | exact ⟨rfl, rfl⟩) ?_) | refine Elem.recs hga (by first | (rw [conv_eq]; exact ⟨rfl, rfl⟩) | exact ⟨rfl, rfl⟩) ?_); simp only [conv_eq, d0, dx', w3, hw_len, hw_set, hw_app, hw_get, hw_ne, hw_setk, getC, getC2, hid, hL1 hid, hL2 hid, hL3 hid, hL4 hid, aw21, aw20, List.take_succ_cons, List.take_zero, List.drop_zero, List.drop_succ_cons, List.length_map, ↓awD, awP, Nat.reduceLeDiff, Nat.reduceEqDiff, Nat.reduceAdd, Nat.zero_add, Int.cast_ofNat_Int, Int.reduceLT, Int.reduceLE, Int.reduceEq]) | (refine Need.mk (by simp only [litParts, List.mem_cons, List.not_mem_nil, or_false, forall_eq_or_imp, forall_eq]; refine ⟨by decide, by decide, by decide, ?_⟩; repeat' (first | exact ⟨rfl, rfl, rfl⟩ | rfl | constructor)) ?_; simp only [aw21, hw_len, hw_set, hw_app, hw_get, hw_ne, hw_setk, getC, getC2, hid, hL1 hid, hL2 hid, hL3 hid, hL4 hid, aw20, List.take_succ_cons, List.take_zero, List.drop_zero, List.drop_succ_cons, List.length_map, ↓awD, awP, Nat.reduceLeDiff, Nat.reduceEqDiff, Nat.reduceAdd, Nat.zero_add, Int.cast_ofNat_Int, Int.reduceLT, Int.reduceLE, Int.reduceEq]) | (refine EvF.use (put_ev (by first | exact hid | (simp only [List.length_append]; omega)) [⟨(sepC c.op).toArray⟩] (by simp) (by first | omega | (simp only [tx_cons, tx_nil, List.length_append, List.length_cons, List.length_nil] at *; omega))) ?_; rintro r h' ⟨rfl, rfl⟩; simp only [dx', tx_cons, tx_nil, List.append_nil, hw_len, hw_set, hw_app, hw_get, hw_ne, hw_setk, getC, getC2, hid, hL1 hid, hL2 hid, hL3 hid, hL4 hid, aw20, List.take_succ_cons, List.take_zero, List.drop_zero, List.drop_succ_cons, List.length_map, ↓awD, awP, Nat.reduceLeDiff, Nat.reduceEqDiff, Nat.reduceAdd, Nat.zero_add, Int.cast_ofNat_Int, Int.reduceLT, Int.reduceLE, Int.reduceEq]) | (refine EvF.use (put_ev (by first | exact hid | (simp only [List.length_append]; omega)) [⟨#[40]⟩] (by simp) (by first | omega | (simp only [tx_cons, tx_nil, List.length_append, List.length_cons, List.length_nil] at *; omega))) ?_; rintro r h' ⟨rfl, rfl⟩; simp only [dx', tx_cons, tx_nil, List.append_nil, hw_len, hw_set, hw_app, hw_get, hw_ne, hw_setk, getC, getC2, hid, hL1 hid, hL2 hid, hL3 hid, hL4 hid, aw20, List.take_succ_cons, List.take_zero, List.drop_zero, List.drop_succ_cons, List.length_map, ↓awD, awP, Nat.reduceLeDiff, Nat.reduceEqDiff, Nat.reduceAdd, Nat.zero_add, Int.cast_ofNat_Int, Int.reduceLT, Int.reduceLE, Int.reduceEq]) | (refine EvF.use (put_ev (by first | exact hid | (simp only [List.length_append]; omega)) [⟨#[41]⟩] (by simp) (by first | omega | (simp only [tx_cons, tx_nil, List.length_append, List.length_cons, List.length_nil] at *; omega))) ?_; rintro r h' ⟨rfl, rfl⟩; simp only [w3, tx_cons, tx_nil, List.append_nil, hw_len, hw_set, hw_app, hw_get, hw_ne, hw_setk, getC, getC2, hid, hL1 hid, hL2 hid, hL3 hid, hL4 hid, aw20, List.take_succ_cons, List.take_zero, List.drop_zero, List.drop_succ_cons, List.length_map, ↓awD, awP, Nat.reduceLeDiff, Nat.reduceEqDiff, Nat.reduceAdd, Nat.zero_add, Int.cast_ofNat_Int, Int.reduceLT, Int.reduceLE, Int.reduceEq]) | (refine EvF.use (hcx _ _ (hL3 hid _ _ _) (by first | omega | (simp only [tx_cons, tx_nil, List.length_append, List.length_cons, List.length_nil] at *; omega))) ?_; rintro r h' ⟨rfl, rfl⟩; simp only [w3, hw_len, hw_set, hw_app, hw_get, hw_ne, hw_setk, getC, getC2, hid, hL1 hid, hL2 hid, hL3 hid, hL4 hid, aw20, List.take_succ_cons, List.take_zero, List.drop_zero, List.drop_succ_cons, List.length_map, ↓awD, awP, Nat.reduceLeDiff, Nat.reduceEqDiff, Nat.reduceAdd, Nat.zero_add, Int.cast_ofNat_Int, Int.reduceLT, Int.reduceLE, Int.reduceEq]))
      all_goals exact ⟨(i + 1, J ++ [AObj.cells [i64 x.op, i64 x.lo, i64 x.hi, boolv x.low, boolv x.high, conl x.l]]), hi, by simp only; omega, weak_of (by rw [htk]; simp only [List.append_assoc, List.nil_append, List.cons_append]) (by simp [look])⟩
theorem conText_ev (c : Con) (hm : mxC c ≤ 2 ^ 48) (hlen : (conT c).length + 100 ≤ 140737488355328) (h : List AObj) :
    EvR E0 15 [conv c] h (str ⟨(if c.op = 0 ∨ okc c = false then [] else conT c).toArray⟩) := by
  refine ev_of (fn := Tryd.f15) (hs := [(3, 0), (3, 1)]) Tryd.func15 c15 (by simp) fun hcl => ?_
  have hcon := fun h => shCon_ev c h hm
  simp only [conv_eq] at hcon
  generalize hC : AObj.cells [AV.lit (Value.int IntKind.i64 c.op), AV.lit (Value.int IntKind.i64 c.lo), AV.lit (Value.int IntKind.i64 c.hi), AV.lit (Value.bool c.low), AV.lit (Value.bool c.high), conl c.l] = C
  have hmo : ∀ K t', mObj (some C) K t' = K [AV.lit (Value.int IntKind.i64 c.op), AV.lit (Value.int IntKind.i64 c.lo), AV.lit (Value.int IntKind.i64 c.hi), AV.lit (Value.bool c.low), AV.lit (Value.bool c.high), conl c.l] := fun K t' => by rw [← hC]; rfl
  have hw1 := wcon_ev _ c (Nat.le_refl _) hm (h := h ++ [C] ++ [wrS []]) (id := (h ++ [C]).length) (out := []) (by simp) (by simp only [List.length_nil]; omega)
  simp only [hw_new, List.nil_append, conv_eq] at hw1
  have hst := string_ev (h := h ++ [C] ++ [wrS (conT c)]) (id := (h ++ [C]).length) (e := 54) (l := conT c) (rest := []) (last_obj _ _)
  simp only [ac15, conv_eq, hC, hmo, aw20, List.take_succ_cons, List.take_zero, List.drop_zero, List.drop_succ_cons, List.length_map, ↓awD, awP, Nat.reduceLeDiff, Nat.reduceEqDiff, Nat.reduceAdd, Nat.zero_add, Int.cast_ofNat_Int, Int.reduceLT, Int.reduceLE, Int.reduceEq]
  repeat' (first | ((first | refine EvF.ret (hcon _) ?_ | refine EvRF.ret (hcon _) ?_); simp only [hmo, aw21, aw20, List.take_succ_cons, List.take_zero, List.drop_zero, List.drop_succ_cons, List.length_map, ↓awD, awP, Nat.reduceLeDiff, Nat.reduceEqDiff, Nat.reduceAdd, Nat.zero_add, Int.cast_ofNat_Int, Int.reduceLT, Int.reduceLE, Int.reduceEq]) | (refine BrF.mk (fun hb => ?_) (fun hb => ?_) <;> (try rw [hb]) <;> simp only [hmo, aw21, aw20, List.take_succ_cons, List.take_zero, List.drop_zero, List.drop_succ_cons, List.length_map, ↓awD, awP, Nat.reduceLeDiff, Nat.reduceEqDiff, Nat.reduceAdd, Nat.zero_add, Int.cast_ofNat_Int, Int.reduceLT, Int.reduceLE, Int.reduceEq]) | (refine EvF.use hw1 ?_; rintro r h' ⟨rfl, rfl⟩; simp only [hmo, aw20, List.take_succ_cons, List.take_zero, List.drop_zero, List.drop_succ_cons, List.length_map, ↓awD, awP, Nat.reduceLeDiff, Nat.reduceEqDiff, Nat.reduceAdd, Nat.zero_add, Int.cast_ofNat_Int, Int.reduceLT, Int.reduceLE, Int.reduceEq]) | (refine EvF.use hst ?_; rintro r h' ⟨rfl, rfl⟩; simp only [hmo, aw20, List.take_succ_cons, List.take_zero, List.drop_zero, List.drop_succ_cons, List.length_map, ↓awD, awP, Nat.reduceLeDiff, Nat.reduceEqDiff, Nat.reduceAdd, Nat.zero_add, Int.cast_ofNat_Int, Int.reduceLT, Int.reduceLE, Int.reduceEq]))
  all_goals (refine Fin.end hcl rfl (by first | rfl | exact (List.append_nil _).symm | (simp only [List.append_assoc]; rfl)) ⟨?_, rfl⟩; first | rfl | ((try simp only [dnat, decide_eq_true_eq, decide_eq_false_iff_not, List.length_eq_zero_iff, List.length_pos_iff] at *); first | (simp [*, aw21]; done) | (simp [*, aw21]; omega) | (clear hcl; simp [*, aw21] <;> grind) | (simp [*, aw21])))
end Go.Abs.Fr

namespace Go.Abs.Fr
open Go Go.Abs Go.Proofs
set_option linter.unusedSimpArgs false
set_option maxRecDepth 100000

def boundsT (o e : List UInt8) (c : Con) (ext : Bool) : List UInt8 := if c.op = 0 then [] else o ++ (conT c ++ ((if ext then [44, 32, 46, 46, 46] else []) ++ e))
def sizeT (c : Con) (ext : Bool) : List UInt8 := boundsT [32, 40, 83, 73, 90, 69, 32, 40] [41, 41] c ext
def dq (l : List UInt8) : List UInt8 := l.flatMap fun c => if c = 34 then [34, 34] else [c]
def quoT (s : ByteArray) : List UInt8 := 34 :: (dq s.data.toList ++ [34])
def valT (v : Val) : List UInt8 := if v.kind = 1 then (if v.n = 0 then [70, 65, 76, 83, 69] else [84, 82, 85, 69]) else if v.kind = 2 then Lib.itoa v.n else if v.kind = 3 then v.s.data.toList else quoT v.s
/-- Items, one behind the other. -/
def itemsT : List (List UInt8) → List UInt8
  | [] => []
  | x :: l => 32 :: (x ++ l.flatMap ([44, 32] ++ ·))
def bracesT (items : List (List UInt8)) (ext : Bool) (adds : List (List UInt8)) : List UInt8 :=
  123 :: (itemsT items ++ ((if ext then (if items.length = 0 then [32] else [44, 32]) ++ [46, 46, 46] else []) ++ (adds.flatMap ([44, 32] ++ ·) ++ [32, 125])))
def bytesL (l : List ByteArray) : List (List UInt8) := l.map fun s => s.data.toList
def defT (l : List Val) : List UInt8 := l.flatMap fun v => [32, 68, 69, 70, 65, 85, 76, 84, 32] ++ valT v
mutual
def typeT : Ty → List UInt8
  | .mk k n c e f ns ms ps ad el _ =>
    if k = 1 then [66, 79, 79, 76, 69, 65, 78] else if k = 4 then [78, 85, 76, 76] else if k = 2 then [73, 78, 84, 69, 71, 69, 82] ++ boundsT [32, 40] [41] c e
    else if k = 3 then [69, 78, 85, 77, 69, 82, 65, 84, 69, 68, 32] ++ bracesT (bytesL ns) e (bytesL ms)
    else if k = 5 then [66, 73, 84, 32, 83, 84, 82, 73, 78, 71] ++ sizeT c e else if k = 6 then [79, 67, 84, 69, 84, 32, 83, 84, 82, 73, 78, 71] ++ sizeT c e
    else if k = 7 then [73, 65, 53, 83, 116, 114, 105, 110, 103] ++ ((if f = ⟨#[]⟩ then [] else [32, 40, 70, 82, 79, 77, 32, 40] ++ (quoT f ++ [41, 41])) ++ sizeT c e)
    else if k = 8 then [83, 69, 81, 85, 69, 78, 67, 69, 32] ++ bracesT (partsT ps) e (partsT ad)
    else if k = 10 then [67, 72, 79, 73, 67, 69, 32] ++ bracesT (partsT ps) e (partsT ad)
    else if k = 9 then [83, 69, 81, 85, 69, 78, 67, 69] ++ (sizeT c e ++ ([32, 79, 70, 32] ++ (typesT el).headD []))
    else n.data.toList
def partT : Prt → List UInt8
  | .mk n t o d => n.data.toList ++ (32 :: (typeT t ++ ((if o then [32, 79, 80, 84, 73, 79, 78, 65, 76] else []) ++ defT d)))
def partsT : List Prt → List (List UInt8)
  | [] => []
  | p :: l => partT p :: partsT l
def typesT : List Ty → List (List UInt8)
  | [] => []
  | p :: l => typeT p :: typesT l
end
theorem partsT_map : ∀ (l : List Prt), partsT l = l.map partT
  | [] => rfl
  | s :: l => by simp only [partsT, List.map_cons, partsT_map l]
theorem typesT_map : ∀ (l : List Ty), typesT l = l.map typeT
  | [] => rfl
  | s :: l => by simp only [typesT, List.map_cons, typesT_map l]
theorem typeT_eq (t : Ty) : typeT t =
    if t.kind = 1 then [66, 79, 79, 76, 69, 65, 78] else if t.kind = 4 then [78, 85, 76, 76] else if t.kind = 2 then [73, 78, 84, 69, 71, 69, 82] ++ boundsT [32, 40] [41] t.con t.ext
    else if t.kind = 3 then [69, 78, 85, 77, 69, 82, 65, 84, 69, 68, 32] ++ bracesT (bytesL t.names) t.ext (bytesL t.more)
    else if t.kind = 5 then [66, 73, 84, 32, 83, 84, 82, 73, 78, 71] ++ sizeT t.con t.ext else if t.kind = 6 then [79, 67, 84, 69, 84, 32, 83, 84, 82, 73, 78, 71] ++ sizeT t.con t.ext
    else if t.kind = 7 then [73, 65, 53, 83, 116, 114, 105, 110, 103] ++ ((if t.frm = ⟨#[]⟩ then [] else [32, 40, 70, 82, 79, 77, 32, 40] ++ (quoT t.frm ++ [41, 41])) ++ sizeT t.con t.ext)
    else if t.kind = 8 then [83, 69, 81, 85, 69, 78, 67, 69, 32] ++ bracesT (t.parts.map partT) t.ext (t.adds.map partT)
    else if t.kind = 10 then [67, 72, 79, 73, 67, 69, 32] ++ bracesT (t.parts.map partT) t.ext (t.adds.map partT)
    else if t.kind = 9 then [83, 69, 81, 85, 69, 78, 67, 69] ++ (sizeT t.con t.ext ++ ([32, 79, 70, 32] ++ (t.elem.map typeT).headD []))
    else t.name.data.toList := by
  cases t; simp only [typeT, partsT_map, typesT_map]; rfl
theorem partT_eq (p : Prt) : partT p = p.name.data.toList ++ (32 :: (typeT p.t ++ ((if p.opt then [32, 79, 80, 84, 73, 79, 78, 65, 76] else []) ++ defT p.dfl))) := by
  cases p; simp only [partT]; rfl
theorem itemsT_snoc (l : List (List UInt8)) (x : List UInt8) : itemsT (l ++ [x]) = itemsT l ++ ((if l.length = 0 then [32] else [44, 32]) ++ x) := by
  cases l with
  | nil => simp [itemsT]
  | cons a l => simp [itemsT]
theorem itemsT_le : ∀ (l : List (List UInt8)) (i : Nat), (itemsT (l.take i)).length ≤ (itemsT l).length
  | [], i => by simp
  | x :: l, 0 => by simp [itemsT]
  | x :: l, i + 1 => by
    have : l.flatMap ([44, 32] ++ ·) = (l.take i).flatMap ([44, 32] ++ ·) ++ (l.drop i).flatMap ([44, 32] ++ ·) := by rw [← List.flatMap_append, List.take_append_drop]
    simp only [List.take_succ_cons, itemsT, List.length_append, List.length_cons]
    rw [this, List.length_append]; omega
theorem flat_le {α : Type} (f : α → List UInt8) (l : List α) (i : Nat) : ((l.take i).flatMap f).length ≤ (l.flatMap f).length := by
  have : l.flatMap f = (l.take i).flatMap f ++ (l.drop i).flatMap f := by rw [← List.flatMap_append, List.take_append_drop]
  rw [this, List.length_append]; omega
theorem flat_take {α : Type} (f : α → List UInt8) (l : List α) (i : Nat) (x : α) (h : l[i]? = some x) : (l.take (i + 1)).flatMap f = (l.take i).flatMap f ++ f x := by
  obtain ⟨hi, he⟩ := List.getElem?_eq_some_iff.1 h
  rw [List.take_succ_eq_append_getElem hi, he, List.flatMap_append]; simp
theorem items_take (l : List (List UInt8)) (i : Nat) (x : List UInt8) (h : l[i]? = some x) : itemsT (l.take (i + 1)) = itemsT (l.take i) ++ ((if i = 0 then [32] else [44, 32]) ++ x) := by
  obtain ⟨hi, he⟩ := List.getElem?_eq_some_iff.1 h
  rw [List.take_succ_eq_append_getElem hi, he, itemsT_snoc, List.length_take]
  congr 3
  rw [eq_iff_iff]; omega
end Go.Abs.Fr
