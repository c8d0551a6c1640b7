/- The text of types: shape's TypeText. -/
import Derived.Test.YthhhpaifelgcpaaDoorS08Wp
import Derived.Test.YthhhpaifelgcpaaDoorS08Sh6
import Derived.Test.YthhhpaifelgcpaaDoorS08Wt
import Derived.Test.YthhhpaifelgcpaaDoorAbsZ
import Derived.Test.YthhhpaifelgcpaaDoorS08Rc
set_option linter.all false
namespace Go.Abs.Fr
open Go Go.Abs Go.Proofs
set_option linter.unusedSimpArgs false
set_option maxRecDepth 100000

/-- spandrel/shape.TypeText -/
def ac11 : ACode := (.seq (.region [⟨(some 1), (.box (.tmp 0)), none⟩, ⟨(some 2), (.move (.const (.string (⟨#[]⟩ : ByteArray)))), none⟩]) (.seq (.seq (.region [⟨(some 4), (.load (some 15) (.tmp 1)), none⟩, ⟨(some 5), (.call (.func 8) [((.tmp 4), false)]), none⟩, ⟨(some 6), (.un .not (.tmp 5)), none⟩]) (.cond (.tmp 6) (.seq (.region [⟨(some 2), (.move (.const (.string (⟨#[]⟩ : ByteArray)))), none⟩]) .ret) .skip)) (.seq (.region [⟨(some 7), (.build [(.lit (.pointer none)), (.lit (.slice none 0 0))] []), none⟩, ⟨(some 8), (.boxB 54 5 (.tmp 7)), none⟩, ⟨(some 3), (.move (.tmp 8)), none⟩]) (.seq (.region [⟨(some 9), (.move (.tmp 3)), none⟩, ⟨(some 10), (.load (some 15) (.tmp 1)), none⟩, ⟨(some 11), (.call (.func 22) [((.tmp 9), false), ((.tmp 10), false)]), none⟩]) (.seq (.region [⟨(some 12), (.move (.tmp 3)), none⟩, ⟨(some 13), (.nilCheck (.tmp 12)), none⟩, ⟨(some 14), (.fieldAddr 0 (.tmp 13)), none⟩, ⟨(some 15), (.call (.func 23) [((.tmp 14), false)]), none⟩, ⟨(some 2), (.move (.tmp 15)), none⟩]) .ret)))))
theorem c11 : cfn E0.P [(3, 0), (3, 1)] Tryd.f11 = some (ac11, [(.tmp 2)], 16) := by kernel_rfl

theorem typeText_ev (t : Ty) (hm : mxT t ≤ 2 ^ 48) (hq : okt t = true → ∀ s, s ∈ quT t → QOk s) (hlen : okt t = true → (typeT t).length + 500 ≤ 140737488355328) (h : List AObj) :
    EvR E0 11 [tyv t] h (str ⟨(if okt t then typeT t else []).toArray⟩) := by
  refine ev_of (fn := Tryd.f11) (hs := [(3, 0), (3, 1)]) Tryd.func11 c11 (by simp) fun hcl => ?_
  have hty := fun h => stype_ev t hm h
  simp only [tyv_eq] at hty
  generalize hT : AObj.cells [AV.lit (Value.int IntKind.i64 t.kind), AV.lit (Value.string t.name), AV.lit (Value.int IntKind.i64 t.con.op), AV.lit (Value.int IntKind.i64 t.con.lo), AV.lit (Value.int IntKind.i64 t.con.hi), AV.lit (Value.bool t.con.low), AV.lit (Value.bool t.con.high), conl t.con.l, AV.lit (Value.bool t.ext), AV.lit (Value.string t.frm), strl t.names, strl t.more, prtl t.parts, prtl t.adds, tyl t.elem] = T
  have hmo : ∀ K t', mObj (some T) K t' = K [AV.lit (Value.int IntKind.i64 t.kind), AV.lit (Value.string t.name), AV.lit (Value.int IntKind.i64 t.con.op), AV.lit (Value.int IntKind.i64 t.con.lo), AV.lit (Value.int IntKind.i64 t.con.hi), AV.lit (Value.bool t.con.low), AV.lit (Value.bool t.con.high), conl t.con.l, AV.lit (Value.bool t.ext), AV.lit (Value.string t.frm), strl t.names, strl t.more, prtl t.parts, prtl t.adds, tyl t.elem] := fun K t' => by rw [← hT]; rfl
  simp only [ac11, tyv_eq, hT, hmo, aw20, List.take_succ_cons, List.take_zero, List.drop_zero, List.drop_succ_cons, List.length_map, ↓awD, awP, Nat.reduceLeDiff, Nat.reduceEqDiff, Nat.reduceAdd, Nat.zero_add, Int.cast_ofNat_Int, Int.reduceLT, Int.reduceLE, Int.reduceEq]
  refine EvF.ret (hty _) ?_
  cases hk : okt t
  · simp only [hmo, aw20, List.take_succ_cons, List.take_zero, List.drop_zero, List.drop_succ_cons, List.length_map, ↓awD, awP, Nat.reduceLeDiff, Nat.reduceEqDiff, Nat.reduceAdd, Nat.zero_add, Int.cast_ofNat_Int, Int.reduceLT, Int.reduceLE, Int.reduceEq]
    exact Fin.end hcl rfl (by first | rfl | exact (List.append_nil _).symm | (simp only [List.append_assoc]; rfl)) ⟨rfl, rfl⟩
  · have hw1 := wtyp_ev 40 t hk hm (hq hk) (h ++ [T] ++ [wrS []]) (h ++ [T]).length [] (by simp) (by have := hlen hk; simp only [List.length_nil]; omega)
    simp only [hw_new, List.nil_append, tyv_eq] at hw1
    have hst := string_ev (h := h ++ [T] ++ [wrS (typeT t)]) (id := (h ++ [T]).length) (e := 54) (l := typeT t) (rest := []) (last_obj _ _)
    simp only [hmo, aw20, List.take_succ_cons, List.take_zero, List.drop_zero, List.drop_succ_cons, List.length_map, ↓awD, awP, Nat.reduceLeDiff, Nat.reduceEqDiff, Nat.reduceAdd, Nat.zero_add, Int.cast_ofNat_Int, Int.reduceLT, Int.reduceLE, Int.reduceEq]
    repeat' (first | (refine EvF.use hw1 ?_; rintro r h' ⟨rfl, rfl⟩; simp only [hmo, aw20, List.take_succ_cons, List.take_zero, List.drop_zero, List.drop_succ_cons, List.length_map, ↓awD, awP, Nat.reduceLeDiff, Nat.reduceEqDiff, Nat.reduceAdd, Nat.zero_add, Int.cast_ofNat_Int, Int.reduceLT, Int.reduceLE, Int.reduceEq]) | (refine EvF.use hst ?_; rintro r h' ⟨rfl, rfl⟩; simp only [hmo, aw20, List.take_succ_cons, List.take_zero, List.drop_zero, List.drop_succ_cons, List.length_map, ↓awD, awP, Nat.reduceLeDiff, Nat.reduceEqDiff, Nat.reduceAdd, Nat.zero_add, Int.cast_ofNat_Int, Int.reduceLT, Int.reduceLE, Int.reduceEq]))
    exact Fin.end hcl rfl (by first | rfl | exact (List.append_nil _).symm | (simp only [List.append_assoc]; rfl)) ⟨rfl, rfl⟩
end Go.Abs.Fr

namespace Go.Abs.Fr
open Go Go.Abs Go.Proofs
set_option linter.unusedSimpArgs false
set_option maxRecDepth 100000

/-- spandrel/shape.Depth -/
def ac9 : ACode := (.seq (.region [⟨(some 1), (.box (.tmp 0)), none⟩, ⟨(some 2), (.move (.const (.int .i64 0))), none⟩]) (.seq (.region [⟨(some 3), (.load (some 15) (.tmp 1)), none⟩, ⟨(some 4), (.call (.func 20) [((.tmp 3), false), ((.const (.int .i64 41)), false)]), none⟩, ⟨(some 2), (.move (.tmp 4)), none⟩]) .ret))
theorem c9 : cfn E0.P [] Tryd.f9 = some (ac9, [(.tmp 2)], 5) := by kernel_rfl
/-- spandrel/shape.depth -/
def ac20 : ACode := (.seq (.region [⟨(some 2), (.box (.tmp 0)), none⟩, ⟨(some 4), (.move (.const (.int .i64 0))), none⟩]) (.seq (.seq (.region [⟨(some 12), (.move (.tmp 1)), none⟩, ⟨(some 13), (.bin .eql (.tmp 12) (.const (.int .i64 0))), none⟩]) (.cond (.tmp 13) (.seq (.region [⟨(some 4), (.move (.const (.int .i64 0))), none⟩]) .ret) .skip)) (.seq (.region [⟨(some 5), (.move (.const (.int .i64 0))), none⟩]) (.seq (.seq (.region [⟨(some 14), (.fieldAddr 12 (.tmp 2)), none⟩, ⟨(some 15), (.load none (.tmp 14)), none⟩, ⟨(some 16), (.fieldAddr 13 (.tmp 2)), none⟩, ⟨(some 17), (.load none (.tmp 16)), none⟩, ⟨(some 18), (.buildSlice false 1 [(.sl .full [])] 2 [(0, (.tmp 15)), (1, (.tmp 17))]), none⟩, ⟨(some 19), (.len false (.tmp 18)), none⟩, ⟨(some 20), (.move (.const (.int .i64 0))), none⟩]) (.block 0 (.loop (.seq (.region [⟨(some 21), (.bin .lss (.tmp 20) (.tmp 19)), none⟩]) (.seq (.cond (.tmp 21) .skip (.exit 0)) (.seq (.block 1 (.seq (.region [⟨(some 22), (.indexAddr 1 (.tmp 18) (.tmp 20)), none⟩, ⟨(some 23), (.load none (.tmp 22)), none⟩, ⟨(some 7), (.move (.tmp 23)), none⟩]) (.seq (.region [⟨(some 24), (.move (.tmp 7)), none⟩, ⟨(some 25), (.len false (.tmp 24)), none⟩, ⟨(some 26), (.move (.const (.int .i64 0))), none⟩]) (.block 2 (.loop (.seq (.region [⟨(some 27), (.bin .lss (.tmp 26) (.tmp 25)), none⟩]) (.seq (.cond (.tmp 27) .skip (.exit 2)) (.seq (.block 3 (.seq (.region [⟨(some 28), (.indexAddr 18 (.tmp 24) (.tmp 26)), none⟩, ⟨(some 29), (.load (some 18) (.tmp 28)), none⟩, ⟨(some 9), (.alloc [(.lit (.string (⟨#[]⟩ : ByteArray))), (.lit (.int .i64 0)), (.lit (.string (⟨#[]⟩ : ByteArray))), (.lit (.int .i64 0)), (.lit (.int .i64 0)), (.lit (.int .i64 0)), (.lit (.bool false)), (.lit (.bool false)), (.sl .full []), (.lit (.bool false)), (.lit (.string (⟨#[]⟩ : ByteArray))), (.sl .full []), (.sl .full []), (.sl .full []), (.sl .full []), (.sl .full []), (.lit (.bool false)), (.sl .full [])]), none⟩, ⟨none, (.store 18 (.tmp 9) (.tmp 29)), none⟩]) (.region [⟨(some 30), (.move (.tmp 5)), none⟩, ⟨(some 31), (.fieldAddr 1 (.tmp 9)), none⟩, ⟨(some 32), (.load (some 15) (.tmp 31)), none⟩, ⟨(some 33), (.move (.tmp 1)), none⟩, ⟨(some 34), (.bin .sub (.tmp 33) (.const (.int .i64 1))), none⟩, ⟨(some 35), (.call (.func 20) [((.tmp 32), false), ((.tmp 34), false)]), none⟩, ⟨(some 36), (.minmax true (.tmp 30) (.tmp 35)), none⟩, ⟨(some 5), (.move (.tmp 36)), none⟩]))) (.region [⟨(some 37), (.bin .add (.tmp 26) (.const (.int .i64 1))), none⟩, ⟨(some 26), (.move (.tmp 37)), none⟩]))))))))) (.region [⟨(some 38), (.bin .add (.tmp 20) (.const (.int .i64 1))), none⟩, ⟨(some 20), (.move (.tmp 38)), none⟩]))))))) (.seq (.seq (.region [⟨(some 39), (.fieldAddr 14 (.tmp 2)), none⟩, ⟨(some 40), (.load none (.tmp 39)), none⟩, ⟨(some 41), (.len false (.tmp 40)), none⟩, ⟨(some 42), (.move (.const (.int .i64 0))), none⟩]) (.block 4 (.loop (.seq (.region [⟨(some 43), (.bin .lss (.tmp 42) (.tmp 41)), none⟩]) (.seq (.cond (.tmp 43) .skip (.exit 4)) (.seq (.block 5 (.seq (.region [⟨(some 44), (.indexAddr 15 (.tmp 40) (.tmp 42)), none⟩, ⟨(some 45), (.load (some 15) (.tmp 44)), none⟩, ⟨(some 11), (.alloc [(.lit (.int .i64 0)), (.lit (.string (⟨#[]⟩ : ByteArray))), (.lit (.int .i64 0)), (.lit (.int .i64 0)), (.lit (.int .i64 0)), (.lit (.bool false)), (.lit (.bool false)), (.sl .full []), (.lit (.bool false)), (.lit (.string (⟨#[]⟩ : ByteArray))), (.sl .full []), (.sl .full []), (.sl .full []), (.sl .full []), (.sl .full [])]), none⟩, ⟨none, (.store 15 (.tmp 11) (.tmp 45)), none⟩]) (.region [⟨(some 46), (.move (.tmp 5)), none⟩, ⟨(some 47), (.load (some 15) (.tmp 11)), none⟩, ⟨(some 48), (.move (.tmp 1)), none⟩, ⟨(some 49), (.bin .sub (.tmp 48) (.const (.int .i64 1))), none⟩, ⟨(some 50), (.call (.func 20) [((.tmp 47), false), ((.tmp 49), false)]), none⟩, ⟨(some 51), (.minmax true (.tmp 46) (.tmp 50)), none⟩, ⟨(some 5), (.move (.tmp 51)), none⟩]))) (.region [⟨(some 52), (.bin .add (.tmp 42) (.const (.int .i64 1))), none⟩, ⟨(some 42), (.move (.tmp 52)), none⟩]))))))) (.seq (.region [⟨(some 53), (.move (.tmp 5)), none⟩, ⟨(some 54), (.bin .add (.tmp 53) (.const (.int .i64 1))), none⟩, ⟨(some 4), (.move (.tmp 54)), none⟩]) .ret))))))
theorem c20 : cfn E0.P [] Tryd.f20 = some (ac20, [(.tmp 4)], 55) := by kernel_rfl

theorem max_nat (a b : Nat) : (if (b : Int) > (a : Int) then (b : Int) else (a : Int)) = ((max a b : Nat) : Int) := by
  split <;> omega

theorem depth_ev : ∀ (r : Nat), r < 2 ^ 60 → ∀ (t : Ty) (h : List AObj), mxT t ≤ 2 ^ 48 → EvR E0 20 [tyv t, i64 r] h (i64 (depTy r t)) := by
  intro r
  induction r with
  | zero =>
    intro _ t h _
    refine ev_of (fn := Tryd.f20) (hs := []) Tryd.func20 c20 (by simp) fun hcl => ?_
    simp only [ac20, tyv_eq, room_0, aw20, List.take_succ_cons, List.take_zero, List.drop_zero, List.drop_succ_cons, List.length_map, ↓awD, awP, Nat.reduceLeDiff, Nat.reduceEqDiff, Nat.reduceAdd, Nat.zero_add, Int.cast_ofNat_Int, Int.reduceLT, Int.reduceLE, Int.reduceEq]
    all_goals (refine Fin.end hcl rfl (by first | rfl | exact (List.append_nil _).symm | (simp only [List.append_assoc]; rfl)) ⟨?_, rfl⟩; first | rfl | ((try simp only [dnat, decide_eq_true_eq, decide_eq_false_iff_not, List.length_eq_zero_iff, List.length_pos_iff] at *); first | (simp [*, depTy]; done) | (simp [*, depTy]; omega) | (clear hcl; simp [*, depTy] <;> grind) | (simp [*, depTy])))
  | succ r ih =>
    intro hr t h ht
    have ih := ih (by omega)
    refine ev_of (fn := Tryd.f20) (hs := []) Tryd.func20 c20 (by simp) fun hcl => ?_
    have hm := mxT_le t
    have hrn := room_ne r
    have hw := dec_room r (by omega)
    have hmP1 := mxPs_len t.parts
    have hmP2 := mxPs_len t.adds
    have hmT := mxTs_len t.elem
    simp only [ac20, tyv_eq, hrn, aw20, List.take_succ_cons, List.take_zero, List.drop_zero, List.drop_succ_cons, List.length_map, ↓awD, awP, Nat.reduceLeDiff, Nat.reduceEqDiff, Nat.reduceAdd, Nat.zero_add, Int.cast_ofNat_Int, Int.reduceLT, Int.reduceLE, Int.reduceEq]
    (refine Need.mk (by simp only [litParts, List.mem_cons, List.not_mem_nil, or_false, forall_eq_or_imp, forall_eq]; refine ⟨by decide, by decide, by decide, ?_⟩; repeat' (first | exact ⟨rfl, rfl, rfl⟩ | rfl | constructor)) ?_; simp only [hrn, aw20, List.take_succ_cons, List.take_zero, List.drop_zero, List.drop_succ_cons, List.length_map, ↓awD, awP, Nat.reduceLeDiff, Nat.reduceEqDiff, Nat.reduceAdd, Nat.zero_add, Int.cast_ofNat_Int, Int.reduceLT, Int.reduceLE, Int.reduceEq])
    generalize hT : AObj.cells [AV.lit (Value.int IntKind.i64 t.kind), AV.lit (Value.string t.name), AV.lit (Value.int IntKind.i64 t.con.op), AV.lit (Value.int IntKind.i64 t.con.lo), AV.lit (Value.int IntKind.i64 t.con.hi), AV.lit (Value.bool t.con.low), AV.lit (Value.bool t.con.high),
      conl t.con.l, AV.lit (Value.bool t.ext), AV.lit (Value.string t.frm), strl t.names, strl t.more, prtl t.parts, prtl t.adds, tyl t.elem] = T
    refine LoopF.list [t.parts, t.adds] (show 2 < 2 ^ 60 by decide) (γ := Nat × List AObj) (fun i g => ⟨[(1, i64 (r + 1 : Nat)), (2, .ref h.length 0), (5, i64 g.1), (18, .sl .full [prtl t.parts, prtl t.adds]), (19, i64 2), (20, i64 i)], h ++ [T] ++ g.2⟩)
      (fun i g => g.1 ≤ r ∧ ([t.parts, t.adds].drop i).foldl (fun b l => depP (depTy r) l b) g.1 = depP (depTy r) t.adds (depP (depTy r) t.parts 0)) (0, []) ⟨Nat.zero_le _, rfl⟩ (weak_of (by simp) (by simp [look])) ?_ ?_
    · rintro i l ⟨acc, J⟩ hl ⟨ha, hv⟩ hi e1 w3
      have hga : [prtl t.parts, prtl t.adds][i]? = some (prtl l) := map_get prtl [t.parts, t.adds] i l hl
      have hml : mxPs l ≤ 2 ^ 48 := by
        have := List.mem_of_getElem? hl
        simp only [List.mem_cons, List.not_mem_nil, or_false] at this
        rcases this with rfl | rfl <;> omega
      have hll := mxPs_len l
      rw [drop_get hl] at hv
      simp only [List.foldl_cons, List.length_cons, List.length_nil, Nat.zero_add, Nat.reduceAdd, Int.cast_ofNat_Int] at hv e1 hi
      simp only [e1, aw20, List.take_succ_cons, List.take_zero, List.drop_zero, List.drop_succ_cons, List.length_map, ↓awD, awP, Nat.reduceLeDiff, Nat.reduceEqDiff, Nat.reduceAdd, Nat.zero_add, Int.cast_ofNat_Int, Int.reduceLT, Int.reduceLE, Int.reduceEq]
      repeat' ((first | refine Need.mk (by first | (first | omega | (simp only [decide_eq_true_eq, decide_eq_false_iff_not, Bool.and_eq_true, Bool.not_eq_true', Bool.not_eq_false', List.length_map] at *; omega) | (simp; omega)) | (constructor <;> (first | omega | (simp only [decide_eq_true_eq, decide_eq_false_iff_not, Bool.and_eq_true, Bool.not_eq_true', Bool.not_eq_false', List.length_map] at *; omega) | (simp; omega)))) (Elem.recs hga (by first | (rw [prtl]; exact ⟨rfl, rfl⟩) | exact ⟨rfl, rfl⟩) ?_) | refine Elem.recs hga (by first | (rw [prtl]; exact ⟨rfl, rfl⟩) | exact ⟨rfl, rfl⟩) ?_); simp only [prtl, aw21, aw21, aw20, List.take_succ_cons, List.take_zero, List.drop_zero, List.drop_succ_cons, List.length_map, ↓awD, awP, Nat.reduceLeDiff, Nat.reduceEqDiff, Nat.reduceAdd, Nat.zero_add, Int.cast_ofNat_Int, Int.reduceLT, Int.reduceLE, Int.reduceEq])
      refine LoopF.list l (by omega) (γ := Nat × List AObj) (fun j g => ⟨[(1, i64 (r + 1 : Nat)), (2, .ref h.length 0), (5, i64 g.1), (18, .sl .full [prtl t.parts, prtl t.adds]), (19, i64 2), (20, i64 i), (24, prtl l), (25, i64 l.length), (26, i64 j)], h ++ [T] ++ g.2⟩)
        (fun j g => g.1 ≤ r ∧ depP (depTy r) (l.drop j) g.1 = depP (depTy r) l acc) (acc, J) ⟨ha, rfl⟩ (weak_of (by simp) (by simp [look])) ?_ ?_
      · rintro j p ⟨acc', J'⟩ hp ⟨ha', hv'⟩ hj f1 v3
        have hgp := map_get prtv l j p hp
        have hmp := mxPs_mem (List.mem_of_getElem? hp)
        have hmq := mxP_le p
        have hdl := depTy_le r p.t
        have hc := fun h => ih p.t h (by omega)
        simp only [tyv_eq] at hc
        rw [drop_get hp] at hv'
        replace hv' : depP (depTy r) (l.drop (j + 1)) (max acc' (depTy r p.t)) = depP (depTy r) l acc := hv'
        simp only [f1, aw20, List.take_succ_cons, List.take_zero, List.drop_zero, List.drop_succ_cons, List.length_map, ↓awD, awP, Nat.reduceLeDiff, Nat.reduceEqDiff, Nat.reduceAdd, Nat.zero_add, Int.cast_ofNat_Int, Int.reduceLT, Int.reduceLE, Int.reduceEq]
        repeat' (first | ((first | refine Need.mk (by first | (first | omega | (simp only [decide_eq_true_eq, decide_eq_false_iff_not, Bool.and_eq_true, Bool.not_eq_true', Bool.not_eq_false', List.length_map] at *; omega) | (simp; omega)) | (constructor <;> (first | omega | (simp only [decide_eq_true_eq, decide_eq_false_iff_not, Bool.and_eq_true, Bool.not_eq_true', Bool.not_eq_false', List.length_map] at *; omega) | (simp; omega)))) (Elem.recs hgp (by first | (rw [prtv_eq]; exact ⟨rfl, rfl⟩) | exact ⟨rfl, rfl⟩) ?_) | refine Elem.recs hgp (by first | (rw [prtv_eq]; exact ⟨rfl, rfl⟩) | exact ⟨rfl, rfl⟩) ?_); simp only [prtv_eq, hw, aw21, aw20, List.take_succ_cons, List.take_zero, List.drop_zero, List.drop_succ_cons, List.length_map, ↓awD, awP, Nat.reduceLeDiff, Nat.reduceEqDiff, Nat.reduceAdd, Nat.zero_add, Int.cast_ofNat_Int, Int.reduceLT, Int.reduceLE, Int.reduceEq]) | ((first | refine EvF.ret (hc _) ?_ | refine EvRF.ret (hc _) ?_); simp only [v3, max_nat, aw21, aw20, List.take_succ_cons, List.take_zero, List.drop_zero, List.drop_succ_cons, List.length_map, ↓awD, awP, Nat.reduceLeDiff, Nat.reduceEqDiff, Nat.reduceAdd, Nat.zero_add, Int.cast_ofNat_Int, Int.reduceLT, Int.reduceLE, Int.reduceEq]))
        exact ⟨(j + 1, (max acc' (depTy r p.t), J' ++ [_])), ⟨hj, ⟨by simp only at ha' ⊢; omega, hv'⟩⟩, by simp only; omega, weak_of (app1J (h ++ [T]) J' _ |>.symm) (by simp [look])⟩
      · rintro ⟨acc', J'⟩ ⟨ha', hv'⟩ f1
        rw [drop_len] at hv'
        replace hv' : acc' = depP (depTy r) l acc := hv'
        subst hv'
        simp only [f1, w3, aw20, List.take_succ_cons, List.take_zero, List.drop_zero, List.drop_succ_cons, List.length_map, ↓awD, awP, Nat.reduceLeDiff, Nat.reduceEqDiff, Nat.reduceAdd, Nat.zero_add, Int.cast_ofNat_Int, Int.reduceLT, Int.reduceLE, Int.reduceEq]
        exact ⟨(i + 1, (depP (depTy r) l acc, J')), ⟨hi, ⟨ha', hv⟩⟩, by simp only; omega, weak_of (rfl) (by simp [look])⟩
    · rintro ⟨acc, J⟩ ⟨ha, hv⟩ e1
      replace hv : acc = depP (depTy r) t.adds (depP (depTy r) t.parts 0) := hv
      simp only [List.length_cons, List.length_nil, Nat.zero_add, Nat.reduceAdd, Int.cast_ofNat_Int] at e1
      have hget : ∀ J : List AObj, (h ++ [T] ++ J)[h.length]? = some T := fun J => by rw [List.append_assoc]; simp
      have hmo : ∀ K t', mObj (some T) K t' = K [AV.lit (Value.int IntKind.i64 t.kind), AV.lit (Value.string t.name), AV.lit (Value.int IntKind.i64 t.con.op), AV.lit (Value.int IntKind.i64 t.con.lo), AV.lit (Value.int IntKind.i64 t.con.hi), AV.lit (Value.bool t.con.low), AV.lit (Value.bool t.con.high),
        conl t.con.l, AV.lit (Value.bool t.ext), AV.lit (Value.string t.frm), strl t.names, strl t.more, prtl t.parts, prtl t.adds, tyl t.elem] := fun K t' => by rw [← hT]; rfl
      simp only [e1, hget, hmo, aw20, List.take_succ_cons, List.take_zero, List.drop_zero, List.drop_succ_cons, List.length_map, ↓awD, awP, Nat.reduceLeDiff, Nat.reduceEqDiff, Nat.reduceAdd, Nat.zero_add, Int.cast_ofNat_Int, Int.reduceLT, Int.reduceLE, Int.reduceEq]
      refine LoopF.list t.elem (by omega) (γ := Nat × List AObj) (fun j g => ⟨[(1, i64 (r + 1 : Nat)), (5, i64 g.1), (40, tyl t.elem), (41, i64 t.elem.length), (42, i64 j)], h ++ [T] ++ g.2⟩)
        (fun j g => g.1 ≤ r ∧ depT (depTy r) (t.elem.drop j) g.1 = depT (depTy r) t.elem acc) (acc, J) ⟨ha, rfl⟩ (weak_of (by simp) (by simp [look])) ?_ ?_
      · rintro j p ⟨acc', J'⟩ hp ⟨ha', hv'⟩ hj f1 v3
        have hgp := map_get tyv t.elem j p hp
        have hmp := mxTs_mem (List.mem_of_getElem? hp)
        have hdl := depTy_le r p
        have hc := fun h => ih p h (by omega)
        simp only [tyv_eq] at hc
        rw [drop_get hp] at hv'
        replace hv' : depT (depTy r) (t.elem.drop (j + 1)) (max acc' (depTy r p)) = depT (depTy r) t.elem acc := hv'
        simp only [f1, aw20, List.take_succ_cons, List.take_zero, List.drop_zero, List.drop_succ_cons, List.length_map, ↓awD, awP, Nat.reduceLeDiff, Nat.reduceEqDiff, Nat.reduceAdd, Nat.zero_add, Int.cast_ofNat_Int, Int.reduceLT, Int.reduceLE, Int.reduceEq]
        repeat' (first | ((first | refine Need.mk (by first | (first | omega | (simp only [decide_eq_true_eq, decide_eq_false_iff_not, Bool.and_eq_true, Bool.not_eq_true', Bool.not_eq_false', List.length_map] at *; omega) | (simp; omega)) | (constructor <;> (first | omega | (simp only [decide_eq_true_eq, decide_eq_false_iff_not, Bool.and_eq_true, Bool.not_eq_true', Bool.not_eq_false', List.length_map] at *; omega) | (simp; omega)))) (Elem.recs hgp (by first | (rw [tyv_eq]; exact ⟨rfl, rfl⟩) | exact ⟨rfl, rfl⟩) ?_) | refine Elem.recs hgp (by first | (rw [tyv_eq]; exact ⟨rfl, rfl⟩) | exact ⟨rfl, rfl⟩) ?_); simp only [tyv_eq, hw, aw21, aw20, List.take_succ_cons, List.take_zero, List.drop_zero, List.drop_succ_cons, List.length_map, ↓awD, awP, Nat.reduceLeDiff, Nat.reduceEqDiff, Nat.reduceAdd, Nat.zero_add, Int.cast_ofNat_Int, Int.reduceLT, Int.reduceLE, Int.reduceEq]) | ((first | refine EvF.ret (hc _) ?_ | refine EvRF.ret (hc _) ?_); simp only [v3, max_nat, aw21, aw20, List.take_succ_cons, List.take_zero, List.drop_zero, List.drop_succ_cons, List.length_map, ↓awD, awP, Nat.reduceLeDiff, Nat.reduceEqDiff, Nat.reduceAdd, Nat.zero_add, Int.cast_ofNat_Int, Int.reduceLT, Int.reduceLE, Int.reduceEq]))
        exact ⟨(j + 1, (max acc' (depTy r p), J' ++ [_])), ⟨hj, ⟨by simp only at ha' ⊢; omega, hv'⟩⟩, by simp only; omega, weak_of (app1J (h ++ [T]) J' _ |>.symm) (by simp [look])⟩
      · rintro ⟨acc', J'⟩ ⟨ha', hv'⟩ f1
        rw [drop_len] at hv'
        replace hv' : acc' = depT (depTy r) t.elem acc := hv'
        have w4 : IntKind.i64.wrap ((acc' : Int) + 1) = ((acc' + 1 : Nat) : Int) := by simp only at ha'; rw [wrap_i64] <;> omega
        simp only [f1, w4, aw20, List.take_succ_cons, List.take_zero, List.drop_zero, List.drop_succ_cons, List.length_map, ↓awD, awP, Nat.reduceLeDiff, Nat.reduceEqDiff, Nat.reduceAdd, Nat.zero_add, Int.cast_ofNat_Int, Int.reduceLT, Int.reduceLE, Int.reduceEq]
        refine Fin.end hcl rfl (by first | rfl | exact (List.append_nil _).symm | (simp only [List.append_assoc]; rfl)) ⟨?_, rfl⟩
        rw [hv', hv]
        rfl

theorem sdepth_ev (t : Ty) (ht : mxT t ≤ 2 ^ 48) (h : List AObj) : EvR E0 9 [tyv t] h (i64 (depTy 41 t)) := by
  refine ev_of (fn := Tryd.f9) (hs := []) Tryd.func9 c9 (by simp) fun hcl => ?_
  have h1 := fun h => depth_ev 41 (by omega) t h ht
  simp only [tyv_eq] at h1
  simp only [ac9, tyv_eq, aw20, List.take_succ_cons, List.take_zero, List.drop_zero, List.drop_succ_cons, List.length_map, ↓awD, awP, Nat.reduceLeDiff, Nat.reduceEqDiff, Nat.reduceAdd, Nat.zero_add, Int.cast_ofNat_Int, Int.reduceLT, Int.reduceLE, Int.reduceEq]
  repeat' ((first | refine EvF.ret (h1 _) ?_ | refine EvRF.ret (h1 _) ?_); simp only [aw21, aw21, aw20, List.take_succ_cons, List.take_zero, List.drop_zero, List.drop_succ_cons, List.length_map, ↓awD, awP, Nat.reduceLeDiff, Nat.reduceEqDiff, Nat.reduceAdd, Nat.zero_add, Int.cast_ofNat_Int, Int.reduceLT, Int.reduceLE, Int.reduceEq])
  all_goals (refine Fin.end hcl rfl (by first | rfl | exact (List.append_nil _).symm | (simp only [List.append_assoc]; rfl)) ⟨?_, rfl⟩; first | rfl | ((try simp only [dnat, decide_eq_true_eq, decide_eq_false_iff_not, List.length_eq_zero_iff, List.length_pos_iff] at *); first | (simp [*, aw21]; done) | (simp [*, aw21]; omega) | (clear hcl; simp [*, aw21] <;> grind) | (simp [*, aw21])))
end Go.Abs.Fr

namespace Go.Abs.Fr
open Go Go.Abs Go.Proofs
set_option linter.unusedSimpArgs false
set_option maxRecDepth 100000

/-- spandrel/spandrellaw08.awake -/
def ac6 : ACode := (.seq (.region [⟨(some 0), (.move (.const (.bool false))), none⟩]) (.seq (.region [⟨(some 4), (.build [(.lit (.int .i64 0)), (.lit (.int .i64 0)), (.lit (.int .i64 0)), (.lit (.bool false)), (.lit (.bool false)), (.sl .full [])] [(0, (1, (.const (.int .i64 1)))), (2, (1, (.const (.int .i64 7))))]), none⟩, ⟨(some 5), (.build [(.lit (.int .i64 0)), (.lit (.int .i64 0)), (.lit (.int .i64 0)), (.lit (.bool false)), (.lit (.bool false)), (.sl .full [])] [(0, (1, (.const (.int .i64 1)))), (1, (1, (.const (.int .i64 9)))), (2, (1, (.const (.int .i64 9))))]), none⟩, ⟨(some 6), (.buildSlice false 6 [(.lit (.int .i64 0)), (.lit (.int .i64 0)), (.lit (.int .i64 0)), (.lit (.bool false)), (.lit (.bool false)), (.sl .full [])] 2 [(0, (.tmp 4)), (1, (.tmp 5))]), none⟩, ⟨(some 7), (.build [(.lit (.int .i64 0)), (.lit (.int .i64 0)), (.lit (.int .i64 0)), (.lit (.bool false)), (.lit (.bool false)), (.sl .full [])] [(0, (1, (.const (.int .i64 2)))), (5, (1, (.tmp 6)))]), none⟩, ⟨(some 1), (.alloc [(.lit (.int .i64 0)), (.lit (.int .i64 0)), (.lit (.int .i64 0)), (.lit (.bool false)), (.lit (.bool false)), (.sl .full [])]), none⟩, ⟨none, (.store 6 (.tmp 1) (.tmp 7)), none⟩]) (.seq (.region [⟨(some 8), (.load (some 6) (.tmp 1)), none⟩, ⟨(some 9), (.build [(.lit (.int .i64 0)), (.lit (.string (⟨#[]⟩ : ByteArray))), (.lit (.int .i64 0)), (.lit (.int .i64 0)), (.lit (.int .i64 0)), (.lit (.bool false)), (.lit (.bool false)), (.sl .full []), (.lit (.bool false)), (.lit (.string (⟨#[]⟩ : ByteArray))), (.sl .full []), (.sl .full []), (.sl .full []), (.sl .full []), (.sl .full [])] [(0, (1, (.const (.int .i64 2)))), (2, (6, (.tmp 8))), (8, (1, (.const (.bool true))))]), none⟩, ⟨(some 2), (.alloc [(.lit (.int .i64 0)), (.lit (.string (⟨#[]⟩ : ByteArray))), (.lit (.int .i64 0)), (.lit (.int .i64 0)), (.lit (.int .i64 0)), (.lit (.bool false)), (.lit (.bool false)), (.sl .full []), (.lit (.bool false)), (.lit (.string (⟨#[]⟩ : ByteArray))), (.sl .full []), (.sl .full []), (.sl .full []), (.sl .full []), (.sl .full [])]), none⟩, ⟨none, (.store 15 (.tmp 2) (.tmp 9)), none⟩]) (.seq (.region [⟨(some 10), (.build [(.lit (.int .i64 0)), (.lit (.string (⟨#[]⟩ : ByteArray))), (.lit (.int .i64 0)), (.lit (.int .i64 0)), (.lit (.int .i64 0)), (.lit (.bool false)), (.lit (.bool false)), (.sl .full []), (.lit (.bool false)), (.lit (.string (⟨#[]⟩ : ByteArray))), (.sl .full []), (.sl .full []), (.sl .full []), (.sl .full []), (.sl .full [])] [(0, (1, (.const (.int .i64 1))))]), none⟩, ⟨(some 11), (.build [(.lit (.string (⟨#[]⟩ : ByteArray))), (.lit (.int .i64 0)), (.lit (.string (⟨#[]⟩ : ByteArray))), (.lit (.int .i64 0)), (.lit (.int .i64 0)), (.lit (.int .i64 0)), (.lit (.bool false)), (.lit (.bool false)), (.sl .full []), (.lit (.bool false)), (.lit (.string (⟨#[]⟩ : ByteArray))), (.sl .full []), (.sl .full []), (.sl .full []), (.sl .full []), (.sl .full []), (.lit (.bool false)), (.sl .full [])] [(0, (1, (.const (.string (⟨#[97]⟩ : ByteArray))))), (1, (15, (.tmp 10))), (16, (1, (.const (.bool true))))]), none⟩, ⟨(some 12), (.buildSlice false 18 [(.lit (.string (⟨#[]⟩ : ByteArray))), (.lit (.int .i64 0)), (.lit (.string (⟨#[]⟩ : ByteArray))), (.lit (.int .i64 0)), (.lit (.int .i64 0)), (.lit (.int .i64 0)), (.lit (.bool false)), (.lit (.bool false)), (.sl .full []), (.lit (.bool false)), (.lit (.string (⟨#[]⟩ : ByteArray))), (.sl .full []), (.sl .full []), (.sl .full []), (.sl .full []), (.sl .full []), (.lit (.bool false)), (.sl .full [])] 1 [(0, (.tmp 11))]), none⟩, ⟨(some 13), (.build [(.lit (.int .i64 0)), (.lit (.string (⟨#[]⟩ : ByteArray))), (.lit (.int .i64 0)), (.lit (.int .i64 0)), (.lit (.int .i64 0)), (.lit (.bool false)), (.lit (.bool false)), (.sl .full []), (.lit (.bool false)), (.lit (.string (⟨#[]⟩ : ByteArray))), (.sl .full []), (.sl .full []), (.sl .full []), (.sl .full []), (.sl .full [])] [(0, (1, (.const (.int .i64 2))))]), none⟩, ⟨(some 14), (.build [(.lit (.int .i64 0)), (.lit (.int .i64 0)), (.lit (.string (⟨#[]⟩ : ByteArray))), (.sl .full []), (.sl .full [])] [(0, (1, (.const (.int .i64 2)))), (1, (1, (.const (.int .i64 (-5)))))]), none⟩, ⟨(some 15), (.buildSlice false 5 [(.lit (.int .i64 0)), (.lit (.int .i64 0)), (.lit (.string (⟨#[]⟩ : ByteArray))), (.sl .full []), (.sl .full [])] 1 [(0, (.tmp 14))]), none⟩, ⟨(some 16), (.build [(.lit (.string (⟨#[]⟩ : ByteArray))), (.lit (.int .i64 0)), (.lit (.string (⟨#[]⟩ : ByteArray))), (.lit (.int .i64 0)), (.lit (.int .i64 0)), (.lit (.int .i64 0)), (.lit (.bool false)), (.lit (.bool false)), (.sl .full []), (.lit (.bool false)), (.lit (.string (⟨#[]⟩ : ByteArray))), (.sl .full []), (.sl .full []), (.sl .full []), (.sl .full []), (.sl .full []), (.lit (.bool false)), (.sl .full [])] [(0, (1, (.const (.string (⟨#[98]⟩ : ByteArray))))), (1, (15, (.tmp 13))), (17, (1, (.tmp 15)))]), none⟩, ⟨(some 17), (.buildSlice false 18 [(.lit (.string (⟨#[]⟩ : ByteArray))), (.lit (.int .i64 0)), (.lit (.string (⟨#[]⟩ : ByteArray))), (.lit (.int .i64 0)), (.lit (.int .i64 0)), (.lit (.int .i64 0)), (.lit (.bool false)), (.lit (.bool false)), (.sl .full []), (.lit (.bool false)), (.lit (.string (⟨#[]⟩ : ByteArray))), (.sl .full []), (.sl .full []), (.sl .full []), (.sl .full []), (.sl .full []), (.lit (.bool false)), (.sl .full [])] 1 [(0, (.tmp 16))]), none⟩, ⟨(some 18), (.build [(.lit (.int .i64 0)), (.lit (.string (⟨#[]⟩ : ByteArray))), (.lit (.int .i64 0)), (.lit (.int .i64 0)), (.lit (.int .i64 0)), (.lit (.bool false)), (.lit (.bool false)), (.sl .full []), (.lit (.bool false)), (.lit (.string (⟨#[]⟩ : ByteArray))), (.sl .full []), (.sl .full []), (.sl .full []), (.sl .full []), (.sl .full [])] [(0, (1, (.const (.int .i64 8)))), (8, (1, (.const (.bool true)))), (12, (1, (.tmp 12))), (13, (1, (.tmp 17)))]), none⟩, ⟨(some 3), (.alloc [(.lit (.int .i64 0)), (.lit (.string (⟨#[]⟩ : ByteArray))), (.lit (.int .i64 0)), (.lit (.int .i64 0)), (.lit (.int .i64 0)), (.lit (.bool false)), (.lit (.bool false)), (.sl .full []), (.lit (.bool false)), (.lit (.string (⟨#[]⟩ : ByteArray))), (.sl .full []), (.sl .full []), (.sl .full []), (.sl .full []), (.sl .full [])]), none⟩, ⟨none, (.store 15 (.tmp 3) (.tmp 18)), none⟩]) (.seq (.region [⟨(some 19), (.load (some 15) (.tmp 2)), none⟩, ⟨(some 20), (.call (.func 11) [((.tmp 19), false)]), none⟩, ⟨(some 21), (.bin .eql (.tmp 20) (.const (.string (⟨#[73, 78, 84, 69, 71, 69, 82, 32, 40, 48, 46, 46, 55, 32, 124, 32, 57, 44, 32, 46, 46, 46, 41]⟩ : ByteArray)))), none⟩, ⟨(some 22), (.move (.tmp 21)), none⟩, ⟨(some 23), (.load (some 15) (.tmp 3)), (some (22, true))⟩, ⟨(some 24), (.call (.func 11) [((.tmp 23), false)]), (some (22, true))⟩, ⟨(some 25), (.bin .eql (.tmp 24) (.const (.string (⟨#[83, 69, 81, 85, 69, 78, 67, 69, 32, 123, 32, 97, 32, 66, 79, 79, 76, 69, 65, 78, 32, 79, 80, 84, 73, 79, 78, 65, 76, 44, 32, 46, 46, 46, 44, 32, 98, 32, 73, 78, 84, 69, 71, 69, 82, 32, 68, 69, 70, 65, 85, 76, 84, 32, 45, 53, 32, 125]⟩ : ByteArray)))), (some (22, true))⟩, ⟨(some 26), (.pick (.tmp 22) (.tmp 25) (.const (.bool false))), none⟩, ⟨(some 27), (.move (.tmp 26)), none⟩, ⟨(some 28), (.load (some 15) (.tmp 3)), (some (27, true))⟩, ⟨(some 29), (.call (.func 8) [((.tmp 28), false)]), (some (27, true))⟩, ⟨(some 30), (.pick (.tmp 27) (.tmp 29) (.const (.bool false))), none⟩, ⟨(some 31), (.move (.tmp 30)), none⟩, ⟨(some 32), (.build [(.lit (.int .i64 0)), (.lit (.string (⟨#[]⟩ : ByteArray))), (.lit (.int .i64 0)), (.lit (.int .i64 0)), (.lit (.int .i64 0)), (.lit (.bool false)), (.lit (.bool false)), (.sl .full []), (.lit (.bool false)), (.lit (.string (⟨#[]⟩ : ByteArray))), (.sl .full []), (.sl .full []), (.sl .full []), (.sl .full []), (.sl .full [])] []), (some (31, true))⟩, ⟨(some 33), (.call (.func 8) [((.tmp 32), false)]), (some (31, true))⟩, ⟨(some 34), (.un .not (.tmp 33)), (some (31, true))⟩, ⟨(some 35), (.pick (.tmp 31) (.tmp 34) (.const (.bool false))), none⟩, ⟨(some 36), (.move (.tmp 35)), none⟩, ⟨(some 37), (.load (some 15) (.tmp 3)), (some (36, true))⟩, ⟨(some 38), (.call (.func 9) [((.tmp 37), false)]), (some (36, true))⟩, ⟨(some 39), (.bin .eql (.tmp 38) (.const (.int .i64 2))), (some (36, true))⟩, ⟨(some 40), (.pick (.tmp 36) (.tmp 39) (.const (.bool false))), none⟩, ⟨(some 41), (.move (.tmp 40)), none⟩, ⟨(some 42), (.call (.func 17) [((.const (.string (⟨#[79, 70]⟩ : ByteArray))), false)]), (some (41, true))⟩, ⟨(some 43), (.pick (.tmp 41) (.tmp 42) (.const (.bool false))), none⟩, ⟨(some 0), (.move (.tmp 43)), none⟩]) .ret)))))
theorem c6 : cfn E0.P [] Tryd.f6 = some (ac6, [(.tmp 0)], 44) := by kernel_rfl

theorem inr0 {n : Int} (h : -1000 ≤ n ∧ n ≤ 1000) : InR n := ⟨by omega, by omega⟩
def spanC (lo hi : Int) (h1 : -1000 ≤ lo ∧ lo ≤ 1000) (h2 : -1000 ≤ hi ∧ hi ≤ 1000) : Con := .mk 1 lo hi false false [] ⟨inr0 (by decide), inr0 h1, inr0 h2⟩
def zC : Con := .mk 0 0 0 false false [] ⟨inr0 (by decide), inr0 (by decide), inr0 (by decide)⟩
def cA : Con := .mk 2 0 0 false false [spanC 0 7 (by decide) (by decide), spanC 9 9 (by decide) (by decide)] ⟨inr0 (by decide), inr0 (by decide), inr0 (by decide)⟩
def plainT (k : Int) (h : -1000 ≤ k ∧ k ≤ 1000) : Ty := .mk k ⟨#[]⟩ zC false ⟨#[]⟩ [] [] [] [] [] (inr0 h)
def tA : Ty := .mk 2 ⟨#[]⟩ cA true ⟨#[]⟩ [] [] [] [] [] (inr0 (by decide))
def tB : Ty := .mk 8 ⟨#[]⟩ zC true ⟨#[]⟩ [] [] [.mk ⟨#[97]⟩ (plainT 1 (by decide)) true []] [.mk ⟨#[98]⟩ (plainT 2 (by decide)) false [.mk 2 (-5) ⟨#[]⟩ [] [] ⟨inr0 (by decide), inr0 (by decide)⟩]] [] (inr0 (by decide))
theorem tA_ok : okt tA = true := by decide +kernel
theorem tB_ok : okt tB = true := by decide +kernel
theorem tZ_ok : okt (plainT 0 (by decide)) = false := by decide +kernel
theorem tB_dep : depTy 41 tB = 2 := by decide +kernel
theorem kwd_of : kwd ⟨#[79, 70]⟩ = true := by decide +kernel
theorem tA_text : typeT tA = [73, 78, 84, 69, 71, 69, 82, 32, 40, 48, 46, 46, 55, 32, 124, 32, 57, 44, 32, 46, 46, 46, 41] := by decide +kernel
theorem tB_text : typeT tB = [83, 69, 81, 85, 69, 78, 67, 69, 32, 123, 32, 97, 32, 66, 79, 79, 76, 69, 65, 78, 32, 79, 80, 84, 73, 79, 78, 65, 76, 44, 32, 46, 46, 46, 44, 32, 98, 32, 73, 78, 84, 69, 71, 69, 82, 32, 68, 69, 70, 65, 85, 76, 84, 32, 45, 53, 32, 125] := by decide +kernel
theorem tA_q : quT tA = [] := by decide +kernel
theorem tB_q : quT tB = [] := by decide +kernel
theorem tA_mx : mxT tA = 2 := by decide +kernel
theorem tB_mx : mxT tB = 1 := by decide +kernel

theorem noq {t : Ty} (h : quT t = []) : okt t = true → ∀ s, s ∈ quT t → QOk s := fun _ s hs => by rw [h] at hs; cases hs
set_option maxHeartbeats 2000000 in
theorem awake8_ev (h : List AObj) : EvR E0 6 [] h (boolv true) := by
  refine ev_of (fn := Tryd.f6) (hs := []) Tryd.func6 c6 (by simp) fun hcl => ?_
  have c1 := fun h => typeText_ev tA (by rw [tA_mx]; decide) (noq tA_q) (fun _ => by rw [tA_text]; decide) h
  have c2 := fun h => typeText_ev tB (by rw [tB_mx]; decide) (noq tB_q) (fun _ => by rw [tB_text]; decide) h
  have c3 := fun h => stype_ev tB (by rw [tB_mx]; decide) h
  have c4 := fun h => stype_ev (plainT 0 (by decide)) (by decide) h
  have c5 := fun h => sdepth_ev tB (by rw [tB_mx]; decide) h
  have c6 := fun h => keyword_ev ⟨#[79, 70]⟩ h
  rw [tA_ok, if_pos rfl, tA_text] at c1
  rw [tB_ok, if_pos rfl, tB_text] at c2
  rw [tB_ok] at c3
  rw [tZ_ok] at c4
  rw [tB_dep] at c5
  rw [kwd_of] at c6
  simp only [ac6, aw20, List.take_succ_cons, List.take_zero, List.drop_zero, List.drop_succ_cons, List.length_map, ↓awD, awP, Nat.reduceLeDiff, Nat.reduceEqDiff, Nat.reduceAdd, Nat.zero_add, Int.cast_ofNat_Int, Int.reduceLT, Int.reduceLE, Int.reduceEq]
  repeat' (first | (refine Need.mk (by simp only [litParts, List.mem_cons, List.not_mem_nil, or_false, forall_eq_or_imp, forall_eq]; refine ⟨by decide, by decide, by decide, ?_⟩; repeat' (first | exact ⟨rfl, rfl, rfl⟩ | rfl | constructor)) ?_; simp only [aw21, aw20, List.take_succ_cons, List.take_zero, List.drop_zero, List.drop_succ_cons, List.length_map, ↓awD, awP, Nat.reduceLeDiff, Nat.reduceEqDiff, Nat.reduceAdd, Nat.zero_add, Int.cast_ofNat_Int, Int.reduceLT, Int.reduceLE, Int.reduceEq]) | ((first | refine EvF.ret ((c1 _).high rfl) ?_ | refine EvRF.ret ((c1 _).high rfl) ?_); simp only [aw21, aw21, aw20, List.take_succ_cons, List.take_zero, List.drop_zero, List.drop_succ_cons, List.length_map, ↓awD, awP, Nat.reduceLeDiff, Nat.reduceEqDiff, Nat.reduceAdd, Nat.zero_add, Int.cast_ofNat_Int, Int.reduceLT, Int.reduceLE, Int.reduceEq]) | ((first | refine EvF.ret ((c2 _).high rfl) ?_ | refine EvRF.ret ((c2 _).high rfl) ?_); simp only [aw21, aw21, aw20, List.take_succ_cons, List.take_zero, List.drop_zero, List.drop_succ_cons, List.length_map, ↓awD, awP, Nat.reduceLeDiff, Nat.reduceEqDiff, Nat.reduceAdd, Nat.zero_add, Int.cast_ofNat_Int, Int.reduceLT, Int.reduceLE, Int.reduceEq]) | ((first | refine EvF.ret ((c3 _).high rfl) ?_ | refine EvRF.ret ((c3 _).high rfl) ?_); simp only [aw21, aw21, aw20, List.take_succ_cons, List.take_zero, List.drop_zero, List.drop_succ_cons, List.length_map, ↓awD, awP, Nat.reduceLeDiff, Nat.reduceEqDiff, Nat.reduceAdd, Nat.zero_add, Int.cast_ofNat_Int, Int.reduceLT, Int.reduceLE, Int.reduceEq]) | ((first | refine EvF.ret ((c4 _).high rfl) ?_ | refine EvRF.ret ((c4 _).high rfl) ?_); simp only [aw21, aw21, aw20, List.take_succ_cons, List.take_zero, List.drop_zero, List.drop_succ_cons, List.length_map, ↓awD, awP, Nat.reduceLeDiff, Nat.reduceEqDiff, Nat.reduceAdd, Nat.zero_add, Int.cast_ofNat_Int, Int.reduceLT, Int.reduceLE, Int.reduceEq]) | ((first | refine EvF.ret ((c5 _).high rfl) ?_ | refine EvRF.ret ((c5 _).high rfl) ?_); simp only [aw21, aw21, aw20, List.take_succ_cons, List.take_zero, List.drop_zero, List.drop_succ_cons, List.length_map, ↓awD, awP, Nat.reduceLeDiff, Nat.reduceEqDiff, Nat.reduceAdd, Nat.zero_add, Int.cast_ofNat_Int, Int.reduceLT, Int.reduceLE, Int.reduceEq]) | ((first | refine EvF.ret (c6 _) ?_ | refine EvRF.ret (c6 _) ?_); simp only [aw21, aw21, aw20, List.take_succ_cons, List.take_zero, List.drop_zero, List.drop_succ_cons, List.length_map, ↓awD, awP, Nat.reduceLeDiff, Nat.reduceEqDiff, Nat.reduceAdd, Nat.zero_add, Int.cast_ofNat_Int, Int.reduceLT, Int.reduceLE, Int.reduceEq]))
  trace_state
  all_goals exact Fin.end hcl rfl (by first | rfl | exact (List.append_nil _).symm | (simp only [List.append_assoc]; rfl)) ⟨rfl, rfl⟩
end Go.Abs.Fr

namespace Go.Abs.Fr
open Go Go.Abs Go.Proofs
set_option linter.unusedSimpArgs false
set_option maxRecDepth 100000

/-- spandrel/spandrellaw08.ShapeCons -/
def ac5 : ACode := (.seq (.region [⟨(some 1), (.box (.tmp 0)), none⟩, ⟨(some 2), (.move (.const (.bool false))), none⟩]) (.seq (.region [⟨(some 4), (.call (.func 6) []), none⟩, ⟨(some 3), (.move (.tmp 4)), none⟩]) (.seq (.seq (.region [⟨(some 5), (.load (some 6) (.tmp 1)), none⟩, ⟨(some 6), (.call (.func 12) [((.tmp 5), false), ((.const (.int .i64 300)), false)]), none⟩, ⟨(some 7), (.un .not (.tmp 6)), none⟩]) (.cond (.tmp 7) (.seq (.region [⟨(some 8), (.move (.tmp 3)), none⟩, ⟨(some 2), (.move (.tmp 8)), none⟩]) .ret) .skip)) (.seq (.draw [⟨(some 9), (.move (.tmp 3)), none⟩, ⟨(some 10), (.move (.tmp 9)), none⟩, ⟨(some 11), (.load (some 6) (.tmp 1)), (some (10, true))⟩, ⟨(some 12), (.call (.func 13) [((.tmp 11), false)]), (some (10, true))⟩, ⟨(some 13), (.load (some 6) (.tmp 1)), (some (10, true))⟩, ⟨(some 14), (.call (.func 14) [((.tmp 13), false)]), (some (10, true))⟩, ⟨(some 15), (.eqB false (.tmp 12) (.tmp 14)), (some (10, true))⟩, ⟨(some 16), (.pick (.tmp 10) (.tmp 15) (.const (.bool false))), none⟩, ⟨(some 17), (.move (.tmp 16)), none⟩, ⟨(some 18), (.load (some 6) (.tmp 1)), (some (17, true))⟩, ⟨(some 19), (.call (.func 15) [((.tmp 18), false)]), (some (17, true))⟩, ⟨(some 20), (.load (some 6) (.tmp 1)), (some (17, true))⟩, ⟨(some 21), (.call (.func 16) [((.tmp 20), false)]), (some (17, true))⟩, ⟨(some 22), (.bin .eql (.tmp 19) (.tmp 21)), (some (17, true))⟩, ⟨(some 23), (.pick (.tmp 17) (.tmp 22) (.const (.bool false))), none⟩, ⟨(some 2), (.move (.tmp 23)), none⟩]) .ret))))
theorem c5 : cfn E0.P [] Tryd.f5 = some (ac5, [(.tmp 2)], 24) := by kernel_rfl

theorem sepT_flat (sep : List UInt8) (h : sep.length ≤ 8) (l : List (List UInt8)) : (sepT sep l).length ≤ (l.map (fun x => x.length + 8)).sum := by
  have hf : ∀ l : List (List UInt8), (l.flatMap (sep ++ ·)).length ≤ (l.map (fun x => x.length + 8)).sum := by
    intro l
    induction l with
    | nil => simp
    | cons x l ih => simp only [List.flatMap_cons, List.length_append, List.map_cons, List.sum_cons]; omega
  cases l with
  | nil => simp [sepT]
  | cons x l =>
    have := hf l
    simp only [sepT, List.length_append, List.map_cons, List.sum_cons]; omega
mutual
theorem conT_len : ∀ (c : Con), (conT c).length + 10 ≤ 60 * szC c
  | .mk o a b c d l ok => by
    have h1 := spanT_len a b c d ok.2.1 ok.2.2
    have h2 := conTs_len l
    have h3 := sepT_flat (sepC o) (by unfold sepC; split <;> (try split) <;> decide) (conTs l)
    simp only [conT, szC]
    split <;> omega
theorem conTs_len : ∀ (l : List Con), ((conTs l).map (fun x => x.length + 8)).sum ≤ 60 * szCs l
  | [] => by simp [conTs]
  | c :: l => by
    have h1 := conT_len c
    have h2 := conTs_len l
    simp only [conTs, szCs, List.map_cons, List.sum_cons]
    split <;> (try simp only [List.length_cons, List.length_append, List.length_nil]) <;> omega
end

theorem cons_law (c : Con) (hm : mxC c ≤ 2 ^ 48) (h : List AObj) : EvR E0 5 [conv c] h (boolv true) := by
  refine ev_of (fn := Tryd.f5) (hs := []) Tryd.func5 c5 (by simp) fun hcl => ?_
  have c1 := fun h => fewCon_ev2 c hm 300 (by decide) (by decide) h
  have c2 := fun h => shCon_ev c h hm
  have c3 := fun h => rCon_ev c h hm
  simp only [conv_eq] at c1 c2 c3
  have x0 : ∀ x : Bool, (x == x) = true := fun x => by cases x <;> rfl
  simp only [ac5, conv_eq, aw20, List.take_succ_cons, List.take_zero, List.drop_zero, List.drop_succ_cons, List.length_map, ↓awD, awP, Nat.reduceLeDiff, Nat.reduceEqDiff, Nat.reduceAdd, Nat.zero_add, Int.cast_ofNat_Int, Int.reduceLT, Int.reduceLE, Int.reduceEq]
  ((first | refine EvF.ret (awake8_ev _) ?_ | refine EvRF.ret (awake8_ev _) ?_); simp only [aw21, aw21, aw20, List.take_succ_cons, List.take_zero, List.drop_zero, List.drop_succ_cons, List.length_map, ↓awD, awP, Nat.reduceLeDiff, Nat.reduceEqDiff, Nat.reduceAdd, Nat.zero_add, Int.cast_ofNat_Int, Int.reduceLT, Int.reduceLE, Int.reduceEq])
  refine EvF.ret (c1 _) ?_
  cases h0 : decide ((0 : Int) ≤ fewC c 300)
  · simp only [aw20, List.take_succ_cons, List.take_zero, List.drop_zero, List.drop_succ_cons, List.length_map, ↓awD, awP, Nat.reduceLeDiff, Nat.reduceEqDiff, Nat.reduceAdd, Nat.zero_add, Int.cast_ofNat_Int, Int.reduceLT, Int.reduceLE, Int.reduceEq]
    exact Fin.end hcl rfl (by first | rfl | exact (List.append_nil _).symm | (simp only [List.append_assoc]; rfl)) ⟨rfl, rfl⟩
  · rw [decide_eq_true_eq] at h0
    have hsz := (fewC_b c 300 (by decide)).2.2 h0
    have hlen := conT_len c
    have c4 := fun h => conText_ev c hm (by omega) h
    have c5 := fun h => rConText_ev c hm (by omega) h
    simp only [conv_eq] at c4 c5
    simp only [aw20, List.take_succ_cons, List.take_zero, List.drop_zero, List.drop_succ_cons, List.length_map, ↓awD, awP, Nat.reduceLeDiff, Nat.reduceEqDiff, Nat.reduceAdd, Nat.zero_add, Int.cast_ofNat_Int, Int.reduceLT, Int.reduceLE, Int.reduceEq]
    repeat' (first | ((first | refine EvF.ret (c2 _) ?_ | refine EvRF.ret (c2 _) ?_); simp only [aw21, aw21, aw20, List.take_succ_cons, List.take_zero, List.drop_zero, List.drop_succ_cons, List.length_map, ↓awD, awP, Nat.reduceLeDiff, Nat.reduceEqDiff, Nat.reduceAdd, Nat.zero_add, Int.cast_ofNat_Int, Int.reduceLT, Int.reduceLE, Int.reduceEq]) | ((first | refine EvF.ret (c3 _) ?_ | refine EvRF.ret (c3 _) ?_); simp only [aw21, x0, aw21, aw20, List.take_succ_cons, List.take_zero, List.drop_zero, List.drop_succ_cons, List.length_map, ↓awD, awP, Nat.reduceLeDiff, Nat.reduceEqDiff, Nat.reduceAdd, Nat.zero_add, Int.cast_ofNat_Int, Int.reduceLT, Int.reduceLE, Int.reduceEq]) | ((first | refine EvF.ret (c4 _) ?_ | refine EvRF.ret (c4 _) ?_); simp only [aw21, aw21, aw20, List.take_succ_cons, List.take_zero, List.drop_zero, List.drop_succ_cons, List.length_map, ↓awD, awP, Nat.reduceLeDiff, Nat.reduceEqDiff, Nat.reduceAdd, Nat.zero_add, Int.cast_ofNat_Int, Int.reduceLT, Int.reduceLE, Int.reduceEq]) | ((first | refine EvF.ret (c5 _) ?_ | refine EvRF.ret (c5 _) ?_); simp only [x0, aw21, aw20, List.take_succ_cons, List.take_zero, List.drop_zero, List.drop_succ_cons, List.length_map, ↓awD, awP, Nat.reduceLeDiff, Nat.reduceEqDiff, Nat.reduceAdd, Nat.zero_add, Int.cast_ofNat_Int, Int.reduceLT, Int.reduceLE, Int.reduceEq]))
    all_goals exact Fin.end hcl rfl (by first | rfl | exact (List.append_nil _).symm | (simp only [List.append_assoc]; rfl)) ⟨by simp, rfl⟩
end Go.Abs.Fr
