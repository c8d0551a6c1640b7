/- The text of types: shape's TypeText. -/
import Derived.Test.YthhhpaifelgcpaaDoorS08Wy
import Derived.Test.YthhhpaifelgcpaaDoorS08Sh7
import Derived.Test.YthhhpaifelgcpaaDoorS08Sh2
import Derived.Test.YthhhpaifelgcpaaDoorAbsZ
import Derived.Test.YthhhpaifelgcpaaDoorS08Row
import Derived.Test.YthhhpaifelgcpaaDoorS08Fv
set_option linter.all false
namespace Go.Abs.Fr
open Go Go.Abs Go.Proofs
set_option linter.unusedSimpArgs false
set_option maxRecDepth 100000

/-- spandrel/shape.TypeText -/
def ac11 : ACode := (.seq (.region [⟨(some 1), (.box (.tmp 0)), none⟩, ⟨(some 2), (.move (.const (.string (⟨#[]⟩ : ByteArray)))), none⟩]) (.seq (.seq (.region [⟨(some 4), (.load (some 15) (.tmp 1)), none⟩, ⟨(some 5), (.call (.func 8) [((.tmp 4), false)]), none⟩, ⟨(some 6), (.un .not (.tmp 5)), none⟩]) (.cond (.tmp 6) (.seq (.region [⟨(some 2), (.move (.const (.string (⟨#[]⟩ : ByteArray)))), none⟩]) .ret) .skip)) (.seq (.region [⟨(some 7), (.build [(.lit (.pointer none)), (.lit (.slice none 0 0))] []), none⟩, ⟨(some 8), (.boxB 54 5 (.tmp 7)), none⟩, ⟨(some 3), (.move (.tmp 8)), none⟩]) (.seq (.region [⟨(some 9), (.move (.tmp 3)), none⟩, ⟨(some 10), (.load (some 15) (.tmp 1)), none⟩, ⟨(some 11), (.call (.func 22) [((.tmp 9), false), ((.tmp 10), false)]), none⟩]) (.seq (.region [⟨(some 12), (.move (.tmp 3)), none⟩, ⟨(some 13), (.nilCheck (.tmp 12)), none⟩, ⟨(some 14), (.fieldAddr 0 (.tmp 13)), none⟩, ⟨(some 15), (.call (.func 23) [((.tmp 14), false)]), none⟩, ⟨(some 2), (.move (.tmp 15)), none⟩]) .ret)))))
theorem c11 : cfn E0.P [(3, 0), (3, 1)] Tryd.f11 = some (ac11, [(.tmp 2)], 16) := by kernel_rfl

theorem typeText_ev (t : Ty) (hm : mxT t ≤ 2 ^ 48) (hq : okt t = true → ∀ s, s ∈ quT t → QOk s) (hlen : okt t = true → (typeT t).length + 500 ≤ 140737488355328) (h : List AObj) :
    EvR E0 11 [tyv t] h (str ⟨(if okt t then typeT t else []).toArray⟩) := by
  refine ev_of (fn := Tryd.f11) (hs := [(3, 0), (3, 1)]) Tryd.func11 c11 (by simp) fun hcl => ?_
  have hty := fun h => stype_ev t hm h
  simp only [tyv_eq] at hty
  generalize hT : AObj.cells [AV.lit (Value.int IntKind.i64 t.kind), AV.lit (Value.string t.name), AV.lit (Value.int IntKind.i64 t.con.op), AV.lit (Value.int IntKind.i64 t.con.lo), AV.lit (Value.int IntKind.i64 t.con.hi), AV.lit (Value.bool t.con.low), AV.lit (Value.bool t.con.high), conl t.con.l, AV.lit (Value.bool t.ext), AV.lit (Value.string t.frm), strl t.names, strl t.more, prtl t.parts, prtl t.adds, tyl t.elem] = T
  have hmo : ∀ K t', mObj (some T) K t' = K [AV.lit (Value.int IntKind.i64 t.kind), AV.lit (Value.string t.name), AV.lit (Value.int IntKind.i64 t.con.op), AV.lit (Value.int IntKind.i64 t.con.lo), AV.lit (Value.int IntKind.i64 t.con.hi), AV.lit (Value.bool t.con.low), AV.lit (Value.bool t.con.high), conl t.con.l, AV.lit (Value.bool t.ext), AV.lit (Value.string t.frm), strl t.names, strl t.more, prtl t.parts, prtl t.adds, tyl t.elem] := fun K t' => by rw [← hT]; rfl
  simp only [ac11, tyv_eq, hT, hmo, aw20, List.take_succ_cons, List.take_zero, List.drop_zero, List.drop_succ_cons, List.length_map, ↓awD, awP, Nat.reduceLeDiff, Nat.reduceEqDiff, Nat.reduceAdd, Nat.zero_add, Int.cast_ofNat_Int, Int.reduceLT, Int.reduceLE, Int.reduceEq]
  refine EvF.ret (hty _) ?_
  cases hk : okt t
  · simp only [hmo, aw20, List.take_succ_cons, List.take_zero, List.drop_zero, List.drop_succ_cons, List.length_map, ↓awD, awP, Nat.reduceLeDiff, Nat.reduceEqDiff, Nat.reduceAdd, Nat.zero_add, Int.cast_ofNat_Int, Int.reduceLT, Int.reduceLE, Int.reduceEq]
    exact Fin.end hcl rfl (by first | rfl | exact (List.append_nil _).symm | (simp only [List.append_assoc]; rfl)) ⟨rfl, rfl⟩
  · have hw1 := wtyp_ev 40 t hk hm (hq hk) (h ++ [T] ++ [wrS []]) (h ++ [T]).length [] (by simp) (by have := hlen hk; simp only [List.length_nil]; omega)
    simp only [hw_new, List.nil_append, tyv_eq] at hw1
    have hst := string_ev (h := h ++ [T] ++ [wrS (typeT t)]) (id := (h ++ [T]).length) (e := 54) (l := typeT t) (rest := []) (last_obj _ _)
    simp only [hmo, aw20, List.take_succ_cons, List.take_zero, List.drop_zero, List.drop_succ_cons, List.length_map, ↓awD, awP, Nat.reduceLeDiff, Nat.reduceEqDiff, Nat.reduceAdd, Nat.zero_add, Int.cast_ofNat_Int, Int.reduceLT, Int.reduceLE, Int.reduceEq]
    repeat' (first | (refine EvF.use hw1 ?_; rintro r h' ⟨rfl, rfl⟩; simp only [hmo, aw20, List.take_succ_cons, List.take_zero, List.drop_zero, List.drop_succ_cons, List.length_map, ↓awD, awP, Nat.reduceLeDiff, Nat.reduceEqDiff, Nat.reduceAdd, Nat.zero_add, Int.cast_ofNat_Int, Int.reduceLT, Int.reduceLE, Int.reduceEq]) | (refine EvF.use hst ?_; rintro r h' ⟨rfl, rfl⟩; simp only [hmo, aw20, List.take_succ_cons, List.take_zero, List.drop_zero, List.drop_succ_cons, List.length_map, ↓awD, awP, Nat.reduceLeDiff, Nat.reduceEqDiff, Nat.reduceAdd, Nat.zero_add, Int.cast_ofNat_Int, Int.reduceLT, Int.reduceLE, Int.reduceEq]))
    exact Fin.end hcl rfl (by first | rfl | exact (List.append_nil _).symm | (simp only [List.append_assoc]; rfl)) ⟨rfl, rfl⟩
end Go.Abs.Fr

namespace Go.Abs.Fr
open Go Go.Abs Go.Proofs
set_option linter.unusedSimpArgs false
set_option maxRecDepth 100000

/-- spandrel/spandrellaw08.awake -/
def ac6 : ACode := (.seq (.region [⟨(some 0), (.move (.const (.bool false))), none⟩]) (.seq (.region [⟨(some 4), (.build [(.lit (.int .i64 0)), (.lit (.int .i64 0)), (.lit (.int .i64 0)), (.lit (.bool false)), (.lit (.bool false)), (.sl .full [])] [(0, (1, (.const (.int .i64 1)))), (2, (1, (.const (.int .i64 7))))]), none⟩, ⟨(some 5), (.build [(.lit (.int .i64 0)), (.lit (.int .i64 0)), (.lit (.int .i64 0)), (.lit (.bool false)), (.lit (.bool false)), (.sl .full [])] [(0, (1, (.const (.int .i64 1)))), (1, (1, (.const (.int .i64 9)))), (2, (1, (.const (.int .i64 9))))]), none⟩, ⟨(some 6), (.buildSlice false 6 [(.lit (.int .i64 0)), (.lit (.int .i64 0)), (.lit (.int .i64 0)), (.lit (.bool false)), (.lit (.bool false)), (.sl .full [])] 2 [(0, (.tmp 4)), (1, (.tmp 5))]), none⟩, ⟨(some 7), (.build [(.lit (.int .i64 0)), (.lit (.int .i64 0)), (.lit (.int .i64 0)), (.lit (.bool false)), (.lit (.bool false)), (.sl .full [])] [(0, (1, (.const (.int .i64 2)))), (5, (1, (.tmp 6)))]), none⟩, ⟨(some 1), (.alloc [(.lit (.int .i64 0)), (.lit (.int .i64 0)), (.lit (.int .i64 0)), (.lit (.bool false)), (.lit (.bool false)), (.sl .full [])]), none⟩, ⟨none, (.store 6 (.tmp 1) (.tmp 7)), none⟩]) (.seq (.region [⟨(some 8), (.load (some 6) (.tmp 1)), none⟩, ⟨(some 9), (.build [(.lit (.int .i64 0)), (.lit (.string (⟨#[]⟩ : ByteArray))), (.lit (.int .i64 0)), (.lit (.int .i64 0)), (.lit (.int .i64 0)), (.lit (.bool false)), (.lit (.bool false)), (.sl .full []), (.lit (.bool false)), (.lit (.string (⟨#[]⟩ : ByteArray))), (.sl .full []), (.sl .full []), (.sl .full []), (.sl .full []), (.sl .full [])] [(0, (1, (.const (.int .i64 2)))), (2, (6, (.tmp 8))), (8, (1, (.const (.bool true))))]), none⟩, ⟨(some 2), (.alloc [(.lit (.int .i64 0)), (.lit (.string (⟨#[]⟩ : ByteArray))), (.lit (.int .i64 0)), (.lit (.int .i64 0)), (.lit (.int .i64 0)), (.lit (.bool false)), (.lit (.bool false)), (.sl .full []), (.lit (.bool false)), (.lit (.string (⟨#[]⟩ : ByteArray))), (.sl .full []), (.sl .full []), (.sl .full []), (.sl .full []), (.sl .full [])]), none⟩, ⟨none, (.store 15 (.tmp 2) (.tmp 9)), none⟩]) (.seq (.region [⟨(some 10), (.build [(.lit (.int .i64 0)), (.lit (.string (⟨#[]⟩ : ByteArray))), (.lit (.int .i64 0)), (.lit (.int .i64 0)), (.lit (.int .i64 0)), (.lit (.bool false)), (.lit (.bool false)), (.sl .full []), (.lit (.bool false)), (.lit (.string (⟨#[]⟩ : ByteArray))), (.sl .full []), (.sl .full []), (.sl .full []), (.sl .full []), (.sl .full [])] [(0, (1, (.const (.int .i64 1))))]), none⟩, ⟨(some 11), (.build [(.lit (.string (⟨#[]⟩ : ByteArray))), (.lit (.int .i64 0)), (.lit (.string (⟨#[]⟩ : ByteArray))), (.lit (.int .i64 0)), (.lit (.int .i64 0)), (.lit (.int .i64 0)), (.lit (.bool false)), (.lit (.bool false)), (.sl .full []), (.lit (.bool false)), (.lit (.string (⟨#[]⟩ : ByteArray))), (.sl .full []), (.sl .full []), (.sl .full []), (.sl .full []), (.sl .full []), (.lit (.bool false)), (.sl .full [])] [(0, (1, (.const (.string (⟨#[97]⟩ : ByteArray))))), (1, (15, (.tmp 10))), (16, (1, (.const (.bool true))))]), none⟩, ⟨(some 12), (.buildSlice false 18 [(.lit (.string (⟨#[]⟩ : ByteArray))), (.lit (.int .i64 0)), (.lit (.string (⟨#[]⟩ : ByteArray))), (.lit (.int .i64 0)), (.lit (.int .i64 0)), (.lit (.int .i64 0)), (.lit (.bool false)), (.lit (.bool false)), (.sl .full []), (.lit (.bool false)), (.lit (.string (⟨#[]⟩ : ByteArray))), (.sl .full []), (.sl .full []), (.sl .full []), (.sl .full []), (.sl .full []), (.lit (.bool false)), (.sl .full [])] 1 [(0, (.tmp 11))]), none⟩, ⟨(some 13), (.build [(.lit (.int .i64 0)), (.lit (.string (⟨#[]⟩ : ByteArray))), (.lit (.int .i64 0)), (.lit (.int .i64 0)), (.lit (.int .i64 0)), (.lit (.bool false)), (.lit (.bool false)), (.sl .full []), (.lit (.bool false)), (.lit (.string (⟨#[]⟩ : ByteArray))), (.sl .full []), (.sl .full []), (.sl .full []), (.sl .full []), (.sl .full [])] [(0, (1, (.const (.int .i64 2))))]), none⟩, ⟨(some 14), (.build [(.lit (.int .i64 0)), (.lit (.int .i64 0)), (.lit (.string (⟨#[]⟩ : ByteArray))), (.sl .full []), (.sl .full [])] [(0, (1, (.const (.int .i64 2)))), (1, (1, (.const (.int .i64 (-5)))))]), none⟩, ⟨(some 15), (.buildSlice false 5 [(.lit (.int .i64 0)), (.lit (.int .i64 0)), (.lit (.string (⟨#[]⟩ : ByteArray))), (.sl .full []), (.sl .full [])] 1 [(0, (.tmp 14))]), none⟩, ⟨(some 16), (.build [(.lit (.string (⟨#[]⟩ : ByteArray))), (.lit (.int .i64 0)), (.lit (.string (⟨#[]⟩ : ByteArray))), (.lit (.int .i64 0)), (.lit (.int .i64 0)), (.lit (.int .i64 0)), (.lit (.bool false)), (.lit (.bool false)), (.sl .full []), (.lit (.bool false)), (.lit (.string (⟨#[]⟩ : ByteArray))), (.sl .full []), (.sl .full []), (.sl .full []), (.sl .full []), (.sl .full []), (.lit (.bool false)), (.sl .full [])] [(0, (1, (.const (.string (⟨#[98]⟩ : ByteArray))))), (1, (15, (.tmp 13))), (17, (1, (.tmp 15)))]), none⟩, ⟨(some 17), (.buildSlice false 18 [(.lit (.string (⟨#[]⟩ : ByteArray))), (.lit (.int .i64 0)), (.lit (.string (⟨#[]⟩ : ByteArray))), (.lit (.int .i64 0)), (.lit (.int .i64 0)), (.lit (.int .i64 0)), (.lit (.bool false)), (.lit (.bool false)), (.sl .full []), (.lit (.bool false)), (.lit (.string (⟨#[]⟩ : ByteArray))), (.sl .full []), (.sl .full []), (.sl .full []), (.sl .full []), (.sl .full []), (.lit (.bool false)), (.sl .full [])] 1 [(0, (.tmp 16))]), none⟩, ⟨(some 18), (.build [(.lit (.int .i64 0)), (.lit (.string (⟨#[]⟩ : ByteArray))), (.lit (.int .i64 0)), (.lit (.int .i64 0)), (.lit (.int .i64 0)), (.lit (.bool false)), (.lit (.bool false)), (.sl .full []), (.lit (.bool false)), (.lit (.string (⟨#[]⟩ : ByteArray))), (.sl .full []), (.sl .full []), (.sl .full []), (.sl .full []), (.sl .full [])] [(0, (1, (.const (.int .i64 8)))), (8, (1, (.const (.bool true)))), (12, (1, (.tmp 12))), (13, (1, (.tmp 17)))]), none⟩, ⟨(some 3), (.alloc [(.lit (.int .i64 0)), (.lit (.string (⟨#[]⟩ : ByteArray))), (.lit (.int .i64 0)), (.lit (.int .i64 0)), (.lit (.int .i64 0)), (.lit (.bool false)), (.lit (.bool false)), (.sl .full []), (.lit (.bool false)), (.lit (.string (⟨#[]⟩ : ByteArray))), (.sl .full []), (.sl .full []), (.sl .full []), (.sl .full []), (.sl .full [])]), none⟩, ⟨none, (.store 15 (.tmp 3) (.tmp 18)), none⟩]) (.seq (.region [⟨(some 19), (.load (some 15) (.tmp 2)), none⟩, ⟨(some 20), (.call (.func 11) [((.tmp 19), false)]), none⟩, ⟨(some 21), (.bin .eql (.tmp 20) (.const (.string (⟨#[73, 78, 84, 69, 71, 69, 82, 32, 40, 48, 46, 46, 55, 32, 124, 32, 57, 44, 32, 46, 46, 46, 41]⟩ : ByteArray)))), none⟩, ⟨(some 22), (.move (.tmp 21)), none⟩, ⟨(some 23), (.load (some 15) (.tmp 3)), (some (22, true))⟩, ⟨(some 24), (.call (.func 11) [((.tmp 23), false)]), (some (22, true))⟩, ⟨(some 25), (.bin .eql (.tmp 24) (.const (.string (⟨#[83, 69, 81, 85, 69, 78, 67, 69, 32, 123, 32, 97, 32, 66, 79, 79, 76, 69, 65, 78, 32, 79, 80, 84, 73, 79, 78, 65, 76, 44, 32, 46, 46, 46, 44, 32, 98, 32, 73, 78, 84, 69, 71, 69, 82, 32, 68, 69, 70, 65, 85, 76, 84, 32, 45, 53, 32, 125]⟩ : ByteArray)))), (some (22, true))⟩, ⟨(some 26), (.pick (.tmp 22) (.tmp 25) (.const (.bool false))), none⟩, ⟨(some 27), (.move (.tmp 26)), none⟩, ⟨(some 28), (.load (some 15) (.tmp 3)), (some (27, true))⟩, ⟨(some 29), (.call (.func 8) [((.tmp 28), false)]), (some (27, true))⟩, ⟨(some 30), (.pick (.tmp 27) (.tmp 29) (.const (.bool false))), none⟩, ⟨(some 31), (.move (.tmp 30)), none⟩, ⟨(some 32), (.build [(.lit (.int .i64 0)), (.lit (.string (⟨#[]⟩ : ByteArray))), (.lit (.int .i64 0)), (.lit (.int .i64 0)), (.lit (.int .i64 0)), (.lit (.bool false)), (.lit (.bool false)), (.sl .full []), (.lit (.bool false)), (.lit (.string (⟨#[]⟩ : ByteArray))), (.sl .full []), (.sl .full []), (.sl .full []), (.sl .full []), (.sl .full [])] []), (some (31, true))⟩, ⟨(some 33), (.call (.func 8) [((.tmp 32), false)]), (some (31, true))⟩, ⟨(some 34), (.un .not (.tmp 33)), (some (31, true))⟩, ⟨(some 35), (.pick (.tmp 31) (.tmp 34) (.const (.bool false))), none⟩, ⟨(some 36), (.move (.tmp 35)), none⟩, ⟨(some 37), (.load (some 15) (.tmp 3)), (some (36, true))⟩, ⟨(some 38), (.call (.func 9) [((.tmp 37), false)]), (some (36, true))⟩, ⟨(some 39), (.bin .eql (.tmp 38) (.const (.int .i64 2))), (some (36, true))⟩, ⟨(some 40), (.pick (.tmp 36) (.tmp 39) (.const (.bool false))), none⟩, ⟨(some 41), (.move (.tmp 40)), none⟩, ⟨(some 42), (.call (.func 17) [((.const (.string (⟨#[79, 70]⟩ : ByteArray))), false)]), (some (41, true))⟩, ⟨(some 43), (.pick (.tmp 41) (.tmp 42) (.const (.bool false))), none⟩, ⟨(some 0), (.move (.tmp 43)), none⟩]) .ret)))))
theorem c6 : cfn E0.P [] Tryd.f6 = some (ac6, [(.tmp 0)], 44) := by kernel_rfl

theorem inr0 {n : Int} (h : -1000 ≤ n ∧ n ≤ 1000) : InR n := ⟨by omega, by omega⟩
def spanC (lo hi : Int) (h1 : -1000 ≤ lo ∧ lo ≤ 1000) (h2 : -1000 ≤ hi ∧ hi ≤ 1000) : Con := .mk 1 lo hi false false [] ⟨inr0 (by decide), inr0 h1, inr0 h2⟩
def zC : Con := .mk 0 0 0 false false [] ⟨inr0 (by decide), inr0 (by decide), inr0 (by decide)⟩
def cA : Con := .mk 2 0 0 false false [spanC 0 7 (by decide) (by decide), spanC 9 9 (by decide) (by decide)] ⟨inr0 (by decide), inr0 (by decide), inr0 (by decide)⟩
def plainT (k : Int) (h : -1000 ≤ k ∧ k ≤ 1000) : Ty := .mk k ⟨#[]⟩ zC false ⟨#[]⟩ [] [] [] [] [] (inr0 h)
def tA : Ty := .mk 2 ⟨#[]⟩ cA true ⟨#[]⟩ [] [] [] [] [] (inr0 (by decide))
def tB : Ty := .mk 8 ⟨#[]⟩ zC true ⟨#[]⟩ [] [] [.mk ⟨#[97]⟩ (plainT 1 (by decide)) true []] [.mk ⟨#[98]⟩ (plainT 2 (by decide)) false [.mk 2 (-5) ⟨#[]⟩ [] [] ⟨inr0 (by decide), inr0 (by decide)⟩]] [] (inr0 (by decide))
theorem tA_ok : okt tA = true := by decide +kernel
theorem tB_ok : okt tB = true := by decide +kernel
theorem tZ_ok : okt (plainT 0 (by decide)) = false := by decide +kernel
theorem tB_dep : depTy 41 tB = 2 := by decide +kernel
theorem kwd_of : kwd ⟨#[79, 70]⟩ = true := by decide +kernel
theorem tA_text : typeT tA = [73, 78, 84, 69, 71, 69, 82, 32, 40, 48, 46, 46, 55, 32, 124, 32, 57, 44, 32, 46, 46, 46, 41] := by decide +kernel
theorem tB_text : typeT tB = [83, 69, 81, 85, 69, 78, 67, 69, 32, 123, 32, 97, 32, 66, 79, 79, 76, 69, 65, 78, 32, 79, 80, 84, 73, 79, 78, 65, 76, 44, 32, 46, 46, 46, 44, 32, 98, 32, 73, 78, 84, 69, 71, 69, 82, 32, 68, 69, 70, 65, 85, 76, 84, 32, 45, 53, 32, 125] := by decide +kernel
theorem tA_q : quT tA = [] := by decide +kernel
theorem tB_q : quT tB = [] := by decide +kernel
theorem tA_mx : mxT tA = 2 := by decide +kernel
theorem tB_mx : mxT tB = 1 := by decide +kernel

theorem noq {t : Ty} (h : quT t = []) : okt t = true → ∀ s, s ∈ quT t → QOk s := fun _ s hs => by rw [h] at hs; cases hs
set_option maxHeartbeats 2000000 in
theorem awake8_ev (h : List AObj) : EvR E0 6 [] h (boolv true) := by
  refine ev_of (fn := Tryd.f6) (hs := []) Tryd.func6 c6 (by simp) fun hcl => ?_
  have c1 := fun h => typeText_ev tA (by rw [tA_mx]; decide) (noq tA_q) (fun _ => by rw [tA_text]; decide) h
  have c2 := fun h => typeText_ev tB (by rw [tB_mx]; decide) (noq tB_q) (fun _ => by rw [tB_text]; decide) h
  have c3 := fun h => stype_ev tB (by rw [tB_mx]; decide) h
  have c4 := fun h => stype_ev (plainT 0 (by decide)) (by decide) h
  have c5 := fun h => sdepth_ev tB (by rw [tB_mx]; decide) h
  have c6 := fun h => keyword_ev ⟨#[79, 70]⟩ h
  rw [tA_ok, if_pos rfl, tA_text] at c1
  rw [tB_ok, if_pos rfl, tB_text] at c2
  rw [tB_ok] at c3
  rw [tZ_ok] at c4
  rw [tB_dep] at c5
  rw [kwd_of] at c6
  simp only [ac6, aw20, List.take_succ_cons, List.take_zero, List.drop_zero, List.drop_succ_cons, List.length_map, ↓awD, awP, Nat.reduceLeDiff, Nat.reduceEqDiff, Nat.reduceAdd, Nat.zero_add, Int.cast_ofNat_Int, Int.reduceLT, Int.reduceLE, Int.reduceEq]
  repeat' (first | (refine Need.mk (by simp only [litParts, List.mem_cons, List.not_mem_nil, or_false, forall_eq_or_imp, forall_eq]; refine ⟨by decide, by decide, by decide, ?_⟩; repeat' (first | exact ⟨rfl, rfl, rfl⟩ | rfl | constructor)) ?_; simp only [aw21, aw20, List.take_succ_cons, List.take_zero, List.drop_zero, List.drop_succ_cons, List.length_map, ↓awD, awP, Nat.reduceLeDiff, Nat.reduceEqDiff, Nat.reduceAdd, Nat.zero_add, Int.cast_ofNat_Int, Int.reduceLT, Int.reduceLE, Int.reduceEq]) | ((first | refine EvF.ret ((c1 _).high rfl) ?_ | refine EvRF.ret ((c1 _).high rfl) ?_); simp only [aw21, aw21, aw20, List.take_succ_cons, List.take_zero, List.drop_zero, List.drop_succ_cons, List.length_map, ↓awD, awP, Nat.reduceLeDiff, Nat.reduceEqDiff, Nat.reduceAdd, Nat.zero_add, Int.cast_ofNat_Int, Int.reduceLT, Int.reduceLE, Int.reduceEq]) | ((first | refine EvF.ret ((c2 _).high rfl) ?_ | refine EvRF.ret ((c2 _).high rfl) ?_); simp only [aw21, aw21, aw20, List.take_succ_cons, List.take_zero, List.drop_zero, List.drop_succ_cons, List.length_map, ↓awD, awP, Nat.reduceLeDiff, Nat.reduceEqDiff, Nat.reduceAdd, Nat.zero_add, Int.cast_ofNat_Int, Int.reduceLT, Int.reduceLE, Int.reduceEq]) | ((first | refine EvF.ret ((c3 _).high rfl) ?_ | refine EvRF.ret ((c3 _).high rfl) ?_); simp only [aw21, aw21, aw20, List.take_succ_cons, List.take_zero, List.drop_zero, List.drop_succ_cons, List.length_map, ↓awD, awP, Nat.reduceLeDiff, Nat.reduceEqDiff, Nat.reduceAdd, Nat.zero_add, Int.cast_ofNat_Int, Int.reduceLT, Int.reduceLE, Int.reduceEq]) | ((first | refine EvF.ret ((c4 _).high rfl) ?_ | refine EvRF.ret ((c4 _).high rfl) ?_); simp only [aw21, aw21, aw20, List.take_succ_cons, List.take_zero, List.drop_zero, List.drop_succ_cons, List.length_map, ↓awD, awP, Nat.reduceLeDiff, Nat.reduceEqDiff, Nat.reduceAdd, Nat.zero_add, Int.cast_ofNat_Int, Int.reduceLT, Int.reduceLE, Int.reduceEq]) | ((first | refine EvF.ret ((c5 _).high rfl) ?_ | refine EvRF.ret ((c5 _).high rfl) ?_); simp only [aw21, aw21, aw20, List.take_succ_cons, List.take_zero, List.drop_zero, List.drop_succ_cons, List.length_map, ↓awD, awP, Nat.reduceLeDiff, Nat.reduceEqDiff, Nat.reduceAdd, Nat.zero_add, Int.cast_ofNat_Int, Int.reduceLT, Int.reduceLE, Int.reduceEq]) | ((first | refine EvF.ret (c6 _) ?_ | refine EvRF.ret (c6 _) ?_); simp only [aw21, aw21, aw20, List.take_succ_cons, List.take_zero, List.drop_zero, List.drop_succ_cons, List.length_map, ↓awD, awP, Nat.reduceLeDiff, Nat.reduceEqDiff, Nat.reduceAdd, Nat.zero_add, Int.cast_ofNat_Int, Int.reduceLT, Int.reduceLE, Int.reduceEq]))
  trace_state
  all_goals exact Fin.end hcl rfl (by first | rfl | exact (List.append_nil _).symm | (simp only [List.append_assoc]; rfl)) ⟨rfl, rfl⟩
end Go.Abs.Fr

namespace Go.Abs.Fr
open Go Go.Abs Go.Proofs
set_option linter.unusedSimpArgs false
set_option maxRecDepth 100000

theorem low_strs (l : List ByteArray) : lows (l.map str) = l.map str := by
  rw [lows_map, List.map_map]; rfl
mutual
theorem low_con : ∀ (c : Con), (conv c).low = conv c
  | .mk o a b c d l ok => by
    have h := low_cons l
    rw [consv_map] at h
    simp only [conv_eq, AV.low, lows]
    show AV.agg [_, _, _, _, _, AV.sl .unk (lows (l.map conv))] = _
    rw [h]; rfl
theorem low_cons : ∀ (l : List Con), lows (consv l) = consv l
  | [] => by simp only [consv, lows]
  | s :: l => by simp only [consv, lows, low_con s, low_cons l]
end
mutual
theorem low_val : ∀ (v : Val), (valv v).low = valv v
  | .mk k n s ns l ok => by
    have h := low_vals l
    rw [valsv_map] at h
    have h2 := low_strs ns
    simp only [valv_eq, AV.low, lows]
    show AV.agg [_, _, _, AV.sl .unk (lows (ns.map str)), AV.sl .unk (lows (l.map valv))] = _
    rw [h, h2]; rfl
theorem low_vals : ∀ (l : List Val), lows (valsv l) = valsv l
  | [] => by simp only [valsv, lows]
  | s :: l => by simp only [valsv, lows, low_val s, low_vals l]
end
theorem lows_append (a b : List AV) : lows (a ++ b) = lows a ++ lows b := by simp only [lows_map, List.map_append]
mutual
theorem low_tyc : ∀ (t : Ty), lows (tyc t) = tyc t
  | .mk k n c e f ns ms ps ad el ok => by
    have h1 := low_prts ps
    have h2 := low_prts ad
    have h3 := low_tys el
    have h4 := low_cons c.l
    rw [consv_map] at h4
    simp only [tyc, lows, AV.low, h1, h2, h3, h4, low_strs]
theorem low_prtc : ∀ (p : Prt), lows (prtc p) = prtc p
  | .mk n t o d => by
    have h1 := low_tyc t
    have h2 := low_vals d
    rw [valsv_map] at h2
    simp only [prtc, lows, lows_append, AV.low, h1, h2]
theorem low_prts : ∀ (l : List Prt), lows (prtsv l) = prtsv l
  | [] => by simp only [prtsv, lows]
  | p :: l => by simp only [prtsv, lows, AV.low, low_prtc p, low_prts l]
theorem low_tys : ∀ (l : List Ty), lows (tysv l) = tysv l
  | [] => by simp only [tysv, lows]
  | p :: l => by simp only [tysv, lows, AV.low, low_tyc p, low_tys l]
end

/-- What the law's variable holds after so many rounds. -/
def tcv (t : Ty) : Nat → List AV
  | 0 => tyc t
  | i + 1 => [i64 9, str ⟨#[]⟩, i64 0, i64 0, i64 0, boolv false, boolv false, .sl .full [], boolv false, str ⟨#[]⟩, .sl .full [], .sl .full [], .sl .full [], .sl .full [], .sl .full [.agg (tcv t i)]]
theorem tcv_low (t : Ty) : ∀ i, lows (tcv t i) = tyc (wrapT t i)
  | 0 => low_tyc t
  | i + 1 => by simp only [tcv, lows, AV.low, tcv_low t i, wrapT, tyc, prtsv, tysv]; rfl
theorem mx_wrap {t : Ty} (h : mxT t ≤ 2 ^ 48) : ∀ i, mxT (wrapT t i) ≤ 2 ^ 48
  | 0 => h
  | i + 1 => by
    have := mx_wrap h i
    simp only [wrapT, mxT, mxTs, mxB, mxPs, mxC, mxCs, zeroC, show (⟨#[]⟩ : ByteArray).size = 0 from rfl, List.length_nil]
    omega
end Go.Abs.Fr

namespace Go.Abs.Fr
open Go Go.Abs Go.Proofs
set_option linter.unusedSimpArgs false
set_option maxRecDepth 100000

/-- spandrel/spandrellaw08.ShapeDeep -/
def ac3 : ACode := (.seq (.region [⟨(some 2), (.box (.tmp 0)), none⟩, ⟨(some 4), (.move (.const (.bool false))), none⟩]) (.seq (.region [⟨(some 8), (.call (.func 6) []), none⟩, ⟨(some 5), (.move (.tmp 8)), none⟩]) (.seq (.seq (.region [⟨(some 9), (.load (some 15) (.tmp 2)), none⟩, ⟨(some 10), (.call (.func 7) [((.tmp 9), false), ((.const (.int .i64 200)), false)]), none⟩, ⟨(some 11), (.un .not (.tmp 10)), none⟩, ⟨(some 12), (.move (.tmp 11)), none⟩, ⟨(some 13), (.load (some 15) (.tmp 2)), (some (12, false))⟩, ⟨(some 14), (.call (.func 8) [((.tmp 13), false)]), (some (12, false))⟩, ⟨(some 15), (.un .not (.tmp 14)), (some (12, false))⟩, ⟨(some 16), (.pick (.tmp 12) (.const (.bool true)) (.tmp 15)), none⟩]) (.cond (.tmp 16) (.seq (.region [⟨(some 17), (.move (.tmp 5)), none⟩, ⟨(some 4), (.move (.tmp 17)), none⟩]) .ret) .skip)) (.seq (.region [⟨(some 18), (.load (some 15) (.tmp 2)), none⟩, ⟨(some 19), (.call (.func 9) [((.tmp 18), false)]), none⟩, ⟨(some 6), (.move (.tmp 19)), none⟩]) (.seq (.seq (.region [⟨(some 7), (.move (.const (.int .i64 0))), none⟩]) (.block 0 (.loop (.seq (.seq (.region [⟨(some 20), (.move (.tmp 7)), none⟩, ⟨(some 21), (.move (.tmp 1)), none⟩, ⟨(some 22), (.bin .and (.tmp 21) (.const (.int .i64 63))), none⟩, ⟨(some 23), (.bin .lss (.tmp 20) (.tmp 22)), none⟩]) (.cond (.tmp 23) .skip (.exit 0))) (.seq (.block 1 (.seq (.region [⟨(some 26), (.load (some 15) (.tmp 2)), none⟩, ⟨(some 27), (.buildSlice false 15 [(.lit (.int .i64 0)), (.lit (.string (⟨#[]⟩ : ByteArray))), (.lit (.int .i64 0)), (.lit (.int .i64 0)), (.lit (.int .i64 0)), (.lit (.bool false)), (.lit (.bool false)), (.sl .full []), (.lit (.bool false)), (.lit (.string (⟨#[]⟩ : ByteArray))), (.sl .full []), (.sl .full []), (.sl .full []), (.sl .full []), (.sl .full [])] 1 [(0, (.tmp 26))]), none⟩, ⟨(some 28), (.build [(.lit (.int .i64 0)), (.lit (.string (⟨#[]⟩ : ByteArray))), (.lit (.int .i64 0)), (.lit (.int .i64 0)), (.lit (.int .i64 0)), (.lit (.bool false)), (.lit (.bool false)), (.sl .full []), (.lit (.bool false)), (.lit (.string (⟨#[]⟩ : ByteArray))), (.sl .full []), (.sl .full []), (.sl .full []), (.sl .full []), (.sl .full [])] [(0, (1, (.const (.int .i64 9)))), (14, (1, (.tmp 27)))]), none⟩, ⟨none, (.store 15 (.tmp 2) (.tmp 28)), none⟩]) (.seq (.region [⟨(some 29), (.move (.tmp 6)), none⟩, ⟨(some 30), (.bin .add (.tmp 29) (.const (.int .i64 1))), none⟩, ⟨(some 6), (.move (.tmp 30)), none⟩]) (.seq (.region [⟨(some 31), (.load (some 15) (.tmp 2)), none⟩, ⟨(some 32), (.call (.func 8) [((.tmp 31), false)]), none⟩, ⟨(some 33), (.move (.tmp 6)), none⟩, ⟨(some 34), (.bin .leq (.tmp 33) (.const (.int .i64 40))), none⟩, ⟨(some 35), (.eqB true (.tmp 32) (.tmp 34)), none⟩, ⟨(some 36), (.move (.tmp 35)), none⟩, ⟨(some 37), (.load (some 15) (.tmp 2)), (some (36, false))⟩, ⟨(some 38), (.call (.func 9) [((.tmp 37), false)]), (some (36, false))⟩, ⟨(some 39), (.move (.tmp 6)), (some (36, false))⟩, ⟨(some 40), (.minmax false (.tmp 39) (.const (.int .i64 41))), (some (36, false))⟩, ⟨(some 41), (.bin .neq (.tmp 38) (.tmp 40)), (some (36, false))⟩, ⟨(some 42), (.pick (.tmp 36) (.const (.bool true)) (.tmp 41)), none⟩]) (.cond (.tmp 42) (.seq (.region [⟨(some 4), (.move (.const (.bool false))), none⟩]) .ret) .skip))))) (.region [⟨(some 24), (.move (.tmp 7)), none⟩, ⟨(some 25), (.bin .add (.tmp 24) (.const (.int .i64 1))), none⟩, ⟨(some 7), (.move (.tmp 25)), none⟩])))))) (.seq (.region [⟨(some 43), (.move (.tmp 5)), none⟩, ⟨(some 4), (.move (.tmp 43)), none⟩]) .ret))))))
theorem c3 : cfn E0.P [] Tryd.f3 = some (ac3, [(.tmp 4)], 44) := by kernel_rfl

theorem and63 (n : Int) : ∃ m : Nat, ibits .and .i64 n 63 = (m : Int) ∧ m ≤ 63 := by
  refine ⟨((BitVec.ofInt 64 n) &&& (BitVec.ofInt 64 63)).toNat, ?_, ?_⟩
  · have : ((BitVec.ofInt 64 n) &&& (BitVec.ofInt 64 63)).toNat ≤ 63 := by
      rw [BitVec.toNat_and]
      exact Nat.and_le_right
    show IntKind.i64.wrap ((((BitVec.ofInt 64 n) &&& (BitVec.ofInt 64 63)).toNat : Nat) : Int) = _
    rw [wrap_i64] <;> omega
  · rw [BitVec.toNat_and]
    exact Nat.and_le_right

theorem tcv_cases (t : Ty) (i : Nat) : tcv t i = [i64 t.kind, str t.name, i64 t.con.op, i64 t.con.lo, i64 t.con.hi, boolv t.con.low, boolv t.con.high, conl t.con.l, boolv t.ext, str t.frm, strl t.names, strl t.more, prtl t.parts, prtl t.adds, tyl t.elem]
    ∨ ∃ x, tcv t i = [i64 9, str ⟨#[]⟩, i64 0, i64 0, i64 0, boolv false, boolv false, .sl .full [], boolv false, str ⟨#[]⟩, .sl .full [], .sl .full [], .sl .full [], .sl .full [], .sl .full [.agg x]] := by
  cases i with
  | zero => exact .inl (tyc_eq t)
  | succ i => exact .inr ⟨_, rfl⟩
theorem deep_law (t : Ty) (n : Int) (hm : mxT t ≤ 2 ^ 48) (h : List AObj) : EvR E0 3 [tyv t, i64 n] h (boolv true) := by
  refine ev_of (fn := Tryd.f3) (hs := []) Tryd.func3 c3 (by simp) fun hcl => ?_
  have c1 := fun h => few_ev2 t hm 200 (by decide) (by decide) h
  have c2 := fun h => stype_ev t hm h
  have c3 := fun h => sdepth_ev t hm h
  have c4 := fun i h => (stype_ev (wrapT t (i + 1)) (mx_wrap hm _) h).high (args' := [.agg (tcv t (i + 1))]) (by simp only [lows, AV.low, tcv_low, tyv])
  have c5 := fun i h => (sdepth_ev (wrapT t (i + 1)) (mx_wrap hm _) h).high (args' := [.agg (tcv t (i + 1))]) (by simp only [lows, AV.low, tcv_low, tyv])
  simp only [tcv] at c4 c5
  simp only [tyv_eq] at c1 c2 c3
  simp only [ac3, tyv_eq, aw20, List.take_succ_cons, List.take_zero, List.drop_zero, List.drop_succ_cons, List.length_map, ↓awD, awP, Nat.reduceLeDiff, Nat.reduceEqDiff, Nat.reduceAdd, Nat.zero_add, Int.cast_ofNat_Int, Int.reduceLT, Int.reduceLE, Int.reduceEq]
  ((first | refine EvF.ret (awake8_ev _) ?_ | refine EvRF.ret (awake8_ev _) ?_); simp only [aw21, aw21, aw20, List.take_succ_cons, List.take_zero, List.drop_zero, List.drop_succ_cons, List.length_map, ↓awD, awP, Nat.reduceLeDiff, Nat.reduceEqDiff, Nat.reduceAdd, Nat.zero_add, Int.cast_ofNat_Int, Int.reduceLT, Int.reduceLE, Int.reduceEq])
  ((first | refine EvF.ret (c1 _) ?_ | refine EvRF.ret (c1 _) ?_); simp only [aw21, aw21, aw20, List.take_succ_cons, List.take_zero, List.drop_zero, List.drop_succ_cons, List.length_map, ↓awD, awP, Nat.reduceLeDiff, Nat.reduceEqDiff, Nat.reduceAdd, Nat.zero_add, Int.cast_ofNat_Int, Int.reduceLT, Int.reduceLE, Int.reduceEq])
  cases h0 : decide ((0 : Int) ≤ fewT t 200)
  · simp only [aw20, List.take_succ_cons, List.take_zero, List.drop_zero, List.drop_succ_cons, List.length_map, ↓awD, awP, Nat.reduceLeDiff, Nat.reduceEqDiff, Nat.reduceAdd, Nat.zero_add, Int.cast_ofNat_Int, Int.reduceLT, Int.reduceLE, Int.reduceEq]
    exact Fin.end hcl rfl (by first | rfl | exact (List.append_nil _).symm | (simp only [List.append_assoc]; rfl)) ⟨rfl, rfl⟩
  · simp only [aw20, List.take_succ_cons, List.take_zero, List.drop_zero, List.drop_succ_cons, List.length_map, ↓awD, awP, Nat.reduceLeDiff, Nat.reduceEqDiff, Nat.reduceAdd, Nat.zero_add, Int.cast_ofNat_Int, Int.reduceLT, Int.reduceLE, Int.reduceEq]
    ((first | refine EvF.ret (c2 _) ?_ | refine EvRF.ret (c2 _) ?_); simp only [aw21, aw21, aw20, List.take_succ_cons, List.take_zero, List.drop_zero, List.drop_succ_cons, List.length_map, ↓awD, awP, Nat.reduceLeDiff, Nat.reduceEqDiff, Nat.reduceAdd, Nat.zero_add, Int.cast_ofNat_Int, Int.reduceLT, Int.reduceLE, Int.reduceEq])
    cases hs : okt t
    · simp only [aw20, List.take_succ_cons, List.take_zero, List.drop_zero, List.drop_succ_cons, List.length_map, ↓awD, awP, Nat.reduceLeDiff, Nat.reduceEqDiff, Nat.reduceAdd, Nat.zero_add, Int.cast_ofNat_Int, Int.reduceLT, Int.reduceLE, Int.reduceEq]
      exact Fin.end hcl rfl (by first | rfl | exact (List.append_nil _).symm | (simp only [List.append_assoc]; rfl)) ⟨rfl, rfl⟩
    · simp only [aw20, List.take_succ_cons, List.take_zero, List.drop_zero, List.drop_succ_cons, List.length_map, ↓awD, awP, Nat.reduceLeDiff, Nat.reduceEqDiff, Nat.reduceAdd, Nat.zero_add, Int.cast_ofNat_Int, Int.reduceLT, Int.reduceLE, Int.reduceEq]
      ((first | refine EvF.ret (c3 _) ?_ | refine EvRF.ret (c3 _) ?_); simp only [aw21, aw21, aw20, List.take_succ_cons, List.take_zero, List.drop_zero, List.drop_succ_cons, List.length_map, ↓awD, awP, Nat.reduceLeDiff, Nat.reduceEqDiff, Nat.reduceAdd, Nat.zero_add, Int.cast_ofNat_Int, Int.reduceLT, Int.reduceLE, Int.reduceEq])
      obtain ⟨m, hm1, hm2⟩ := and63 n
      refine LoopF.upto (γ := Unit) m (by omega) (fun i _ => ⟨[(1, i64 n), (2, .ref h.length 0), (5, boolv true), (6, i64 ((depTy 41 t + i : Nat) : Int)), (7, i64 i)], h ++ [AObj.cells (tcv t i)]⟩) (fun _ _ => True) () trivial ?_ ?_ ?_
      · exact weak_of (by simp only [tcv, tyc_eq]) (by simp [look])
      · rintro i - - hi w1 w3
        have d1 : ∀ h : List AObj, ∀ x, (h ++ [x])[h.length]? = some x := fun h x => by simp
        have d2 : ∀ (h : List AObj) x y, (h ++ [x]).set h.length y = h ++ [y] := fun h x y => by simp
        have e4 := ok_nest hs (i + 1) 40 (by omega)
        have e5 := dep_nest t (i + 1) 41 (by omega)
        have hd := depTy_le 41 t
        have w7 : IntKind.i64.wrap (((depTy 41 t + i : Nat) : Int) + 1) = ((depTy 41 t + (i + 1) : Nat) : Int) := by rw [wrap_i64] <;> omega
        have k4 : decide (((depTy 41 t + (i + 1) : Nat) : Int) ≤ 40) = decide (depTy 41 t + (i + 1) ≤ 40) := by rw [decide_eq_decide]; omega
        have k5 : decide (((min (depTy 41 t + (i + 1)) 41 : Nat) : Int) = if (41 : Int) < ((depTy 41 t + (i + 1) : Nat) : Int) then 41 else ((depTy 41 t + (i + 1) : Nat) : Int)) = true := by rw [decide_eq_true_eq]; split <;> omega
        have x0 : ∀ x : Bool, (x == x) = true := fun x => by cases x <;> rfl
        have g4 := fun h => c4 i h
        have g5 := fun h => c5 i h
        rw [show okt (wrapT t (i + 1)) = _ from e4] at g4
        rw [e5] at g5
        rcases tcv_cases t i with hx | ⟨x, hx⟩
        all_goals
          rw [hx] at g4 g5
          simp only [hx, hm1, w1, w3, d1, d2, w7, k4, aw20, List.take_succ_cons, List.take_zero, List.drop_zero, List.drop_succ_cons, List.length_map, ↓awD, awP, Nat.reduceLeDiff, Nat.reduceEqDiff, Nat.reduceAdd, Nat.zero_add, Int.cast_ofNat_Int, Int.reduceLT, Int.reduceLE, Int.reduceEq]
          refine Need.mk ⟨rfl, by decide, by decide, fun p hp => by simp only [List.mem_singleton] at hp; subst hp; exact ⟨rfl, rfl, rfl⟩⟩ ?_
          simp only [d1, d2, w7, k4, k5, x0, aw20, List.take_succ_cons, List.take_zero, List.drop_zero, List.drop_succ_cons, List.length_map, ↓awD, awP, Nat.reduceLeDiff, Nat.reduceEqDiff, Nat.reduceAdd, Nat.zero_add, Int.cast_ofNat_Int, Int.reduceLT, Int.reduceLE, Int.reduceEq]
          repeat' (first | ((first | refine EvF.ret (g4 _) ?_ | refine EvRF.ret (g4 _) ?_); simp only [d1, d2, w7, k4, k5, x0, aw21, aw20, List.take_succ_cons, List.take_zero, List.drop_zero, List.drop_succ_cons, List.length_map, ↓awD, awP, Nat.reduceLeDiff, Nat.reduceEqDiff, Nat.reduceAdd, Nat.zero_add, Int.cast_ofNat_Int, Int.reduceLT, Int.reduceLE, Int.reduceEq]) | ((first | refine EvF.ret (g5 _) ?_ | refine EvRF.ret (g5 _) ?_); simp only [d1, d2, w7, k4, k5, x0, aw21, aw20, List.take_succ_cons, List.take_zero, List.drop_zero, List.drop_succ_cons, List.length_map, ↓awD, awP, Nat.reduceLeDiff, Nat.reduceEqDiff, Nat.reduceAdd, Nat.zero_add, Int.cast_ofNat_Int, Int.reduceLT, Int.reduceLE, Int.reduceEq]) | (refine BrF.mk (fun hb => ?_) (fun hb => ?_) <;> (try rw [hb]) <;> simp only [d1, d2, w7, k4, k5, x0, aw21, aw20, List.take_succ_cons, List.take_zero, List.drop_zero, List.drop_succ_cons, List.length_map, ↓awD, awP, Nat.reduceLeDiff, Nat.reduceEqDiff, Nat.reduceAdd, Nat.zero_add, Int.cast_ofNat_Int, Int.reduceLT, Int.reduceLE, Int.reduceEq]))
          exact ⟨(i + 1, ()), ⟨hi, by first | trivial | (simp only; omega), weak_of (by simp only [tcv, hx]) (by have w4 := w3; simp only [Int.natCast_add, Int.cast_ofNat_Int] at w4; simp [look]; exact w4)⟩⟩
      · rintro - - w1
        simp only [hm1, w1, aw20, List.take_succ_cons, List.take_zero, List.drop_zero, List.drop_succ_cons, List.length_map, ↓awD, awP, Nat.reduceLeDiff, Nat.reduceEqDiff, Nat.reduceAdd, Nat.zero_add, Int.cast_ofNat_Int, Int.reduceLT, Int.reduceLE, Int.reduceEq]
        all_goals (refine Fin.end hcl rfl (by first | rfl | exact (List.append_nil _).symm | (simp only [List.append_assoc]; rfl)) ⟨?_, rfl⟩; first | rfl | ((try simp only [dnat, decide_eq_true_eq, decide_eq_false_iff_not, List.length_eq_zero_iff, List.length_pos_iff] at *); first | (simp [*, aw21]; done) | (simp [*, aw21]; omega) | (clear hcl; simp [*, aw21] <;> grind) | (simp [*, aw21])))
end Go.Abs.Fr
