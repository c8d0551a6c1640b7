/- Values of tables' types: member.Canon. -/
import Derived.Test.YtloimemacnjpgaaGreatS15SvJ
import Derived.Test.YtloimemacnjpgaaGreatAbsZm
import Derived.Test.YtloimemacnjpgaaGreatS15FrC
import Derived.Test.YtloimemacnjpgaaGreatAbsK2
import Derived.Test.YtloimemacnjpgaaGreatAbsSo
set_option linter.all false
namespace Go.Abs.Fr
open Go Go.Abs Go.Proofs
set_option linter.unusedSimpArgs false
set_option maxRecDepth 100000

/-- spandrel/member.Canon -/
def ac11 : ACode := (.seq (.region [⟨(some 3), (.box (.tmp 1)), none⟩, ⟨(some 4), (.alloc [(.lit (.int .i64 0)), (.lit (.int .i64 0)), (.lit (.string (⟨#[]⟩ : ByteArray))), (.sl .full []), (.sl .full [])]), none⟩, ⟨(some 5), (.move (.const (.int .i64 0))), none⟩]) (.seq (.seq (.region [⟨(some 7), (.move (.tmp 0)), none⟩, ⟨(some 8), (.load (some 5) (.tmp 3)), none⟩, ⟨(some 9), (.call (.func 15) [((.tmp 7), false), ((.tmp 8), false)]), none⟩, ⟨(some 6), (.move (.tmp 9)), none⟩]) (.seq (.region [⟨(some 10), (.move (.tmp 6)), none⟩, ⟨(some 11), (.bin .neq (.tmp 10) (.const (.int .i64 0))), none⟩]) (.cond (.tmp 11) (.seq (.region [⟨(some 12), (.build [(.lit (.int .i64 0)), (.lit (.int .i64 0)), (.lit (.string (⟨#[]⟩ : ByteArray))), (.sl .full []), (.sl .full [])] []), none⟩, ⟨(some 13), (.move (.tmp 6)), none⟩, ⟨none, (.store 5 (.tmp 4) (.tmp 12)), none⟩, ⟨(some 5), (.move (.tmp 13)), none⟩]) .ret) .skip))) (.seq (.region [⟨(some 14), (.move (.tmp 0)), none⟩, ⟨(some 15), (.build [(.sl .full []), (.lit (.int .i64 0)), (.lit (.int .i64 0))] [(0, (1, (.tmp 14))), (1, (1, (.const (.int .i64 0)))), (2, (1, (.const (.int .i64 40))))]), none⟩, ⟨(some 16), (.load (some 5) (.tmp 3)), none⟩, ⟨(some 17), (.call (.func 19) [((.tmp 15), false), ((.tmp 16), false)]), none⟩, ⟨none, (.store 5 (.tmp 4) (.tmp 17)), none⟩, ⟨(some 5), (.move (.const (.int .i64 0))), none⟩]) .ret)))
theorem c11 : cfn E0.P [] Tryz.f11 = some (ac11, [(.cell 4 (some 5)), (.tmp 5)], 18) := by kernel_rfl

def val0 : Val := .mk 0 0 ⟨#[]⟩ [] [] (by unfold InR; decide)
theorem check0 {d : List Dsc} {v : Val} (h : checkT d v = 0) : rightT d = true ∧ deepV 40 v = false ∧ hasV d 40 0 v = true := by
  unfold checkT at h
  cases h1 : rightT d <;> rw [h1] at h <;> simp only [Bool.not_false, Bool.not_true, cond_true, cond_false] at h
  · omega
  · cases h2 : deepV 40 v <;> rw [h2] at h <;> simp only [cond_true, cond_false] at h
    · cases h3 : hasV d 40 0 v <;> rw [h3] at h <;> simp only [Bool.not_false, Bool.not_true, cond_true, cond_false] at h
      · omega
      · exact ⟨rfl, rfl, rfl⟩
    · omega
noncomputable def canonT (d : List Dsc) (v : Val) : Val := bif decide (checkT d v = 0) then canV d 40 0 v else val0
theorem canon_ev (d : List Dsc) (hd : ∀ r, r ∈ d → BD (2 ^ 30) r) (hl : d.length < 2 ^ 30) (v : Val) (hv : mxV v ≤ 2 ^ 48) (hz : szV v ≤ 2 ^ 40) (h : List AObj) : EvR E0 11 [dscl d, valv v] h (.tup [valv (canonT d v), i64 (checkT d v)]) := by
  have hc := fun h => check_ev d hd hl v hv h
  unfold canonT
  simp only [valv_eq] at hc
  cases hcc : decide (checkT d v = 0)
  · show EvR E0 11 [dscl d, valv v] h (.tup (lows [.agg [i64 0, i64 0, str ⟨#[]⟩, .sl .full [], .sl .full []], i64 (checkT d v)]))
    refine EvR.lowT ?_
    refine ev_of (fn := Tryz.f11) (hs := []) Tryz.func11 c11 (by simp) fun hcl => ?_
    simp only [ac11, valv_eq, aw20, List.take_succ_cons, List.take_zero, List.drop_zero, List.drop_succ_cons, List.length_map, ↓awD, awP, Nat.reduceLeDiff, Nat.reduceEqDiff, Nat.reduceAdd, Nat.zero_add, Int.cast_ofNat_Int, Int.reduceLT, Int.reduceLE, Int.reduceEq]
    repeat' (first | ((first | refine EvF.ret (hc _) ?_ | refine EvRF.ret (hc _) ?_); simp only [hcc, aw21, aw20, List.take_succ_cons, List.take_zero, List.drop_zero, List.drop_succ_cons, List.length_map, ↓awD, awP, Nat.reduceLeDiff, Nat.reduceEqDiff, Nat.reduceAdd, Nat.zero_add, Int.cast_ofNat_Int, Int.reduceLT, Int.reduceLE, Int.reduceEq]))
    exact Fin.end hcl (by first | rfl | (simp only [AV.under, unders, und_val, und_vals, und_strs, und_ints, und_rgs, und_flds, und_dsc, und_dscs, Bool.and_self, Bool.and_true, Bool.true_and])) (by first | rfl | exact (List.append_nil _).symm | (simp only [List.append_assoc]; rfl)) ⟨rfl, rfl⟩
  · have hc0 := of_decide_eq_true hcc
    obtain ⟨h1, h2, h3⟩ := check0 hc0
    obtain ⟨hok, hpos⟩ := tab_ok h1
    have hcn := fun h => canon_all d hd hok 40 (Nat.le_refl _) 0 v ⟨Int.le_refl _, by omega⟩ hv hz h3 h
    simp only [valv_eq] at hcn
    refine ev_of (fn := Tryz.f11) (hs := []) Tryz.func11 c11 (by simp) fun hcl => ?_
    simp only [cond_true, ac11, valv_eq, aw20, List.take_succ_cons, List.take_zero, List.drop_zero, List.drop_succ_cons, List.length_map, ↓awD, awP, Nat.reduceLeDiff, Nat.reduceEqDiff, Nat.reduceAdd, Nat.zero_add, Int.cast_ofNat_Int, Int.reduceLT, Int.reduceLE, Int.reduceEq]
    repeat' (first | ((first | refine EvF.ret (hc _) ?_ | refine EvRF.ret (hc _) ?_); simp only [hcc, aw21, aw20, List.take_succ_cons, List.take_zero, List.drop_zero, List.drop_succ_cons, List.length_map, ↓awD, awP, Nat.reduceLeDiff, Nat.reduceEqDiff, Nat.reduceAdd, Nat.zero_add, Int.cast_ofNat_Int, Int.reduceLT, Int.reduceLE, Int.reduceEq]) | ((first | refine EvF.ret (hcn _) ?_ | refine EvRF.ret (hcn _) ?_); simp only [hcc, aw21, aw20, List.take_succ_cons, List.take_zero, List.drop_zero, List.drop_succ_cons, List.length_map, ↓awD, awP, Nat.reduceLeDiff, Nat.reduceEqDiff, Nat.reduceAdd, Nat.zero_add, Int.cast_ofNat_Int, Int.reduceLT, Int.reduceLE, Int.reduceEq]))
    refine Fin.end hcl ?_ (by first | rfl | exact (List.append_nil _).symm | (simp only [List.append_assoc]; rfl)) ⟨?_, rfl⟩
    · simp only [AV.under, unders, und_vals, und_strs, Bool.and_self]
    · rw [hc0, valv_eq]
end Go.Abs.Fr

namespace Go.Abs.Fr
open Go Go.Abs Go.Proofs
set_option linter.unusedSimpArgs false
set_option maxRecDepth 100000

mutual
def fewC : Con → Int → Int
  | .mk _ _ _ _ _ l _, n => fewCs l (n - 1)
def fewCs : List Con → Int → Int
  | [], n => n
  | c :: l, n => if 0 ≤ n then fewCs l (fewC c n) else n
end
mutual
def fewV : Val → Int → Int
  | .mk _ _ _ ns l _, n => fewVs l (n - 1 - ns.length)
def fewVs : List Val → Int → Int
  | [], n => n
  | c :: l, n => if 0 ≤ n then fewVs l (fewV c n) else n
end
mutual
def fewT : Ty → Int → Int
  | .mk _ _ c _ _ ns ms ps ad el _, n => fewTs el (fewPs ad (fewPs ps (fewC c (n - 1 - ns.length - ms.length))))
def fewP : Prt → Int → Int
  | .mk _ t _ d, n => fewT t (fewVs d (n - 1))
def fewPs : List Prt → Int → Int
  | [], n => n
  | c :: l, n => if 0 ≤ n then fewPs l (fewP c n) else n
def fewTs : List Ty → Int → Int
  | [], n => n
  | c :: l, n => if 0 ≤ n then fewTs l (fewT c n) else n
end
theorem fewC_eq (c : Con) (n : Int) : fewC c n = fewCs c.l (n - 1) := by cases c; simp only [fewC]; rfl
theorem fewV_eq (v : Val) (n : Int) : fewV v n = fewVs v.l (n - 1 - v.names.length) := by cases v; simp only [fewV]; rfl
theorem fewT_eq (t : Ty) (n : Int) : fewT t n = fewTs t.elem (fewPs t.adds (fewPs t.parts (fewC t.con (n - 1 - t.names.length - t.more.length)))) := by cases t; simp only [fewT]; rfl
theorem fewP_eq (p : Prt) (n : Int) : fewP p n = fewT p.t (fewVs p.dfl (n - 1)) := by cases p; simp only [fewP]; rfl
theorem fewCs_neg {l : List Con} {n : Int} (h : ¬ 0 ≤ n) : fewCs l n = n := by cases l <;> simp [fewCs, h]
theorem fewVs_neg {l : List Val} {n : Int} (h : ¬ 0 ≤ n) : fewVs l n = n := by cases l <;> simp [fewVs, h]
theorem fewPs_neg {l : List Prt} {n : Int} (h : ¬ 0 ≤ n) : fewPs l n = n := by cases l <;> simp [fewPs, h]
theorem fewTs_neg {l : List Ty} {n : Int} (h : ¬ 0 ≤ n) : fewTs l n = n := by cases l <;> simp [fewTs, h]

/-! ### Bounds; sizes -/
mutual
theorem fewC_b : ∀ (c : Con) (n : Int), -(2 : Int) ^ 51 ≤ n → -(2 : Int) ^ 51 - 1 ≤ fewC c n ∧ fewC c n ≤ n ∧ (0 ≤ fewC c n → (szC c : Int) ≤ n - fewC c n)
  | .mk a b c d e l ok, n, h => by
    have h1 := fewCs_b l (n - 1) (by omega)
    simp only [fewC, szC]
    refine ⟨by omega, by omega, fun h0 => ?_⟩
    have := h1.2.2 h0
    omega
theorem fewCs_b : ∀ (l : List Con) (n : Int), -(2 : Int) ^ 51 - 1 ≤ n → -(2 : Int) ^ 51 - 1 ≤ fewCs l n ∧ fewCs l n ≤ n ∧ (0 ≤ fewCs l n → (szCs l : Int) ≤ n - fewCs l n)
  | [], n, h => by simp only [fewCs, szCs]; omega
  | c :: l, n, h => by
    by_cases h0 : 0 ≤ n
    · have h1 := fewC_b c n (by omega)
      have h2 := fewCs_b l (fewC c n) (by omega)
      simp only [fewCs, if_pos h0, szCs]
      refine ⟨h2.1, by omega, fun h3 => ?_⟩
      have h4 := h2.2.2 h3
      have h5 := h1.2.2 (by omega)
      omega
    · simp only [fewCs, if_neg h0]
      exact ⟨h, Int.le_refl _, fun h3 => absurd h3 h0⟩
end
mutual
theorem fewV_b : ∀ (c : Val) (n : Int), mxV c ≤ 2 ^ 48 → 0 ≤ n → -(2 : Int) ^ 49 ≤ fewV c n ∧ fewV c n ≤ n ∧ (0 ≤ fewV c n → (szV c : Int) ≤ n - fewV c n)
  | .mk a b s ns l ok, n, hm, h => by
    simp only [mxV] at hm
    have hl := mxB_len ns
    have h1 := fewVs_b l (n - 1 - ns.length) (by omega) (by omega)
    simp only [fewV, szV]
    refine ⟨by omega, by omega, fun h0 => ?_⟩
    have := h1.2.2 h0
    omega
theorem fewVs_b : ∀ (l : List Val) (n : Int), mxVs l ≤ 2 ^ 48 → -(2 : Int) ^ 49 ≤ n → -(2 : Int) ^ 49 ≤ fewVs l n ∧ fewVs l n ≤ n ∧ (0 ≤ fewVs l n → (szVs l : Int) ≤ n - fewVs l n)
  | [], n, _, h => by simp only [fewVs, szVs]; omega
  | c :: l, n, hm, h => by
    simp only [mxVs] at hm
    by_cases h0 : 0 ≤ n
    · have h1 := fewV_b c n (by omega) h0
      have h2 := fewVs_b l (fewV c n) (by omega) (by omega)
      simp only [fewVs, if_pos h0, szVs]
      refine ⟨h2.1, by omega, fun h3 => ?_⟩
      have h4 := h2.2.2 h3
      have h5 := h1.2.2 (by omega)
      omega
    · simp only [fewVs, if_neg h0]
      exact ⟨h, Int.le_refl _, fun h3 => absurd h3 h0⟩
end
mutual
theorem fewT_b : ∀ (t : Ty) (n : Int), mxT t ≤ 2 ^ 48 → -(2 : Int) ^ 49 ≤ n → -(2 : Int) ^ 52 ≤ fewT t n ∧ fewT t n ≤ n ∧ (0 ≤ fewT t n → (szT t : Int) ≤ n - fewT t n)
  | .mk k nm c e f ns ms ps ad el ok, n, hm, h => by
    simp only [mxT] at hm
    have hl1 := mxB_len ns
    have hl2 := mxB_len ms
    have h1 := fewC_b c (n - 1 - ns.length - ms.length) (by omega)
    have h2 := fewPs_b ps (fewC c (n - 1 - ns.length - ms.length)) (by omega) (by omega)
    have h3 := fewPs_b ad (fewPs ps (fewC c (n - 1 - ns.length - ms.length))) (by omega) (by omega)
    have h4 := fewTs_b el (fewPs ad (fewPs ps (fewC c (n - 1 - ns.length - ms.length)))) (by omega) (by omega)
    simp only [fewT, szT]
    refine ⟨by omega, by omega, fun h0 => ?_⟩
    have := h4.2.2 h0
    have := h3.2.2 (by omega)
    have := h2.2.2 (by omega)
    omega
theorem fewP_b : ∀ (p : Prt) (n : Int), mxP p ≤ 2 ^ 48 → 0 ≤ n → -(2 : Int) ^ 52 ≤ fewP p n ∧ fewP p n ≤ n ∧ (0 ≤ fewP p n → (szP p : Int) ≤ n - fewP p n)
  | .mk nm t o d, n, hm, h => by
    simp only [mxP] at hm
    have h1 := fewVs_b d (n - 1) (by omega) (by omega)
    have h2 := fewT_b t (fewVs d (n - 1)) (by omega) (by omega)
    simp only [fewP, szP]
    refine ⟨by omega, by omega, fun h0 => ?_⟩
    have := h2.2.2 h0
    omega
theorem fewPs_b : ∀ (l : List Prt) (n : Int), mxPs l ≤ 2 ^ 48 → -(2 : Int) ^ 52 ≤ n → -(2 : Int) ^ 52 ≤ fewPs l n ∧ fewPs l n ≤ n ∧ (0 ≤ fewPs l n → (szPs l : Int) ≤ n - fewPs l n)
  | [], n, _, h => by simp only [fewPs, szPs]; omega
  | c :: l, n, hm, h => by
    simp only [mxPs] at hm
    by_cases h0 : 0 ≤ n
    · have h1 := fewP_b c n (by omega) h0
      have h2 := fewPs_b l (fewP c n) (by omega) (by omega)
      simp only [fewPs, if_pos h0, szPs]
      refine ⟨h2.1, by omega, fun h3 => ?_⟩
      have h4 := h2.2.2 h3
      have h5 := h1.2.2 (by omega)
      omega
    · simp only [fewPs, if_neg h0]
      exact ⟨h, Int.le_refl _, fun h3 => absurd h3 h0⟩
theorem fewTs_b : ∀ (l : List Ty) (n : Int), mxTs l ≤ 2 ^ 48 → -(2 : Int) ^ 52 ≤ n → -(2 : Int) ^ 52 ≤ fewTs l n ∧ fewTs l n ≤ n ∧ (0 ≤ fewTs l n → (szTs l : Int) ≤ n - fewTs l n)
  | [], n, _, h => by simp only [fewTs, szTs]; omega
  | c :: l, n, hm, h => by
    simp only [mxTs] at hm
    by_cases h0 : 0 ≤ n
    · have h1 := fewT_b c n (by omega) (by omega)
      have h2 := fewTs_b l (fewT c n) (by omega) (by omega)
      simp only [fewTs, if_pos h0, szTs]
      refine ⟨h2.1, by omega, fun h3 => ?_⟩
      have h4 := h2.2.2 h3
      have h5 := h1.2.2 (by omega)
      omega
    · simp only [fewTs, if_neg h0]
      exact ⟨h, Int.le_refl _, fun h3 => absurd h3 h0⟩
end
end Go.Abs.Fr

namespace Go.Abs.Fr
open Go Go.Abs Go.Proofs
set_option linter.unusedSimpArgs false
set_option maxRecDepth 100000

/-- spandrel/spandrelref08.FewValues -/
def ac16 : ACode := (.seq (.region [⟨(some 4), (.move (.const (.bool false))), none⟩]) (.seq (.region [⟨(some 5), (.move (.tmp 0)), none⟩, ⟨(some 6), (.move (.tmp 1)), none⟩, ⟨(some 7), (.call (.func 27) [((.tmp 5), false), ((.tmp 6), false)]), none⟩, ⟨(some 8), (.bin .geq (.tmp 7) (.const (.int .i64 0))), none⟩, ⟨(some 4), (.move (.tmp 8)), none⟩]) .ret))
theorem c16 : cfn E0.P [] Tryz.f16 = some (ac16, [(.tmp 4)], 9) := by kernel_rfl
/-- spandrel/spandrelref08.fewDefs -/
def ac27 : ACode := (.seq (.region [⟨(some 4), (.move (.const (.int .i64 0))), none⟩]) (.seq (.seq (.region [⟨(some 5), (.move (.const (.int .i64 0))), none⟩]) (.block 0 (.loop (.seq (.seq (.region [⟨(some 6), (.move (.tmp 5)), none⟩, ⟨(some 7), (.move (.tmp 0)), none⟩, ⟨(some 8), (.len false (.tmp 7)), none⟩, ⟨(some 9), (.bin .lss (.tmp 6) (.tmp 8)), none⟩, ⟨(some 10), (.move (.tmp 9)), none⟩, ⟨(some 11), (.move (.tmp 1)), (some (10, true))⟩, ⟨(some 12), (.bin .geq (.tmp 11) (.const (.int .i64 0))), (some (10, true))⟩, ⟨(some 13), (.pick (.tmp 10) (.tmp 12) (.const (.bool false))), none⟩]) (.cond (.tmp 13) .skip (.exit 0))) (.seq (.block 1 (.draw [⟨(some 16), (.move (.tmp 0)), none⟩, ⟨(some 17), (.move (.tmp 5)), none⟩, ⟨(some 18), (.indexAddr 5 (.tmp 16) (.tmp 17)), none⟩, ⟨(some 19), (.fieldAddr 4 (.tmp 18)), none⟩, ⟨(some 20), (.load none (.tmp 19)), none⟩, ⟨(some 21), (.move (.tmp 1)), none⟩, ⟨(some 22), (.bin .sub (.tmp 21) (.const (.int .i64 1))), none⟩, ⟨(some 23), (.move (.tmp 0)), none⟩, ⟨(some 24), (.move (.tmp 5)), none⟩, ⟨(some 25), (.indexAddr 5 (.tmp 23) (.tmp 24)), none⟩, ⟨(some 26), (.fieldAddr 3 (.tmp 25)), none⟩, ⟨(some 27), (.load none (.tmp 26)), none⟩, ⟨(some 28), (.len false (.tmp 27)), none⟩, ⟨(some 29), (.bin .sub (.tmp 22) (.tmp 28)), none⟩, ⟨(some 30), (.call (.func 27) [((.tmp 20), false), ((.tmp 29), false)]), none⟩, ⟨(some 1), (.move (.tmp 30)), none⟩])) (.region [⟨(some 14), (.move (.tmp 5)), none⟩, ⟨(some 15), (.bin .add (.tmp 14) (.const (.int .i64 1))), none⟩, ⟨(some 5), (.move (.tmp 15)), none⟩])))))) (.seq (.region [⟨(some 31), (.move (.tmp 1)), none⟩, ⟨(some 4), (.move (.tmp 31)), none⟩]) .ret)))
theorem c27 : cfn E0.P [] Tryz.f27 = some (ac27, [(.tmp 4)], 32) := by kernel_rfl

theorem rfewDefs_ev : ∀ (k : Nat) (l : List Val), szVs l ≤ k → mxVs l ≤ 2 ^ 48 → ∀ (n : Int), -(2 : Int) ^ 49 ≤ n → n ≤ 2 ^ 60 → ∀ h, EvR E0 27 [vall l, i64 n] h (i64 (fewVs l n)) := by
  intro k
  induction k using Nat.strongRecOn with
  | _ k ih =>
    intro l hk hm n hn hn2 h
    refine ev_of (fn := Tryz.f27) (hs := []) Tryz.func27 c27 (by simp) fun hcl => ?_
    have hlen := mxVs_len l
    generalize hR : fewVs l n = R
    simp only [ac27, aw20, List.take_succ_cons, List.take_zero, List.drop_zero, List.drop_succ_cons, List.length_map, ↓awD, awP, Nat.reduceLeDiff, Nat.reduceEqDiff, Nat.reduceAdd, Nat.zero_add, Int.cast_ofNat_Int, Int.reduceLT, Int.reduceLE, Int.reduceEq]
    refine LoopF.list l (by omega) (γ := Int) (fun i g => ⟨[(0, vall l), (1, i64 g), (5, i64 i)], h⟩)
      (fun i g => (-(2 : Int) ^ 49 ≤ g ∧ g ≤ 2 ^ 60) ∧ fewVs (l.drop i) g = R) n ⟨⟨by omega, by omega⟩, by simpa using hR⟩ (weak_of (by simp) (by simp [look])) ?_ ?_
    · rintro i a g ha ⟨hg, hv⟩ hi e1 w3
      rw [drop_get ha] at hv
      have hga := map_get valv l i a ha
      have hma := mxVs_mem (List.mem_of_getElem? ha)
      have hza := szVs_mem (List.mem_of_getElem? ha)
      have hmx := mxV_le a
      have hzx := szV_eq a
      have hln := mxB_len a.names
      simp only [e1, aw20, List.take_succ_cons, List.take_zero, List.drop_zero, List.drop_succ_cons, List.length_map, ↓awD, awP, Nat.reduceLeDiff, Nat.reduceEqDiff, Nat.reduceAdd, Nat.zero_add, Int.cast_ofNat_Int, Int.reduceLT, Int.reduceLE, Int.reduceEq]
      by_cases h0 : 0 ≤ g
      · have hb := fewV_b a g (by omega) h0
        have hca := fun h => ih (szVs a.l) (by omega) a.l (Nat.le_refl _) (by omega) (g - 1 - a.names.length) (by omega) (by omega) h
        have w1 : IntKind.i64.wrap (g - 1) = g - 1 := by rw [wrap_i64] <;> omega
        have w2 : IntKind.i64.wrap (g - 1 - a.names.length) = g - 1 - a.names.length := by rw [wrap_i64] <;> omega
        rw [fewVs, if_pos h0] at hv
        rw [fewV_eq] at hv hb
        have d0 : decide (0 ≤ g) = true := by rw [decide_eq_true_eq]; exact h0
        simp only [d0, aw20, List.take_succ_cons, List.take_zero, List.drop_zero, List.drop_succ_cons, List.length_map, ↓awD, awP, Nat.reduceLeDiff, Nat.reduceEqDiff, Nat.reduceAdd, Nat.zero_add, Int.cast_ofNat_Int, Int.reduceLT, Int.reduceLE, Int.reduceEq]
        repeat' (first | ((first | refine Need.mk (by first | (first | omega | (simp only [decide_eq_true_eq, decide_eq_false_iff_not, Bool.and_eq_true, Bool.not_eq_true', Bool.not_eq_false', List.length_map] at *; omega) | (simp; omega)) | (constructor <;> (first | omega | (simp only [decide_eq_true_eq, decide_eq_false_iff_not, Bool.and_eq_true, Bool.not_eq_true', Bool.not_eq_false', List.length_map] at *; omega) | (simp; omega)))) (Elem.recs hga (by first | (rw [valv_eq]; exact ⟨rfl, rfl⟩) | exact ⟨rfl, rfl⟩) ?_) | refine Elem.recs hga (by first | (rw [valv_eq]; exact ⟨rfl, rfl⟩) | exact ⟨rfl, rfl⟩) ?_); simp only [valv_eq, w1, w2, aw21, aw20, List.take_succ_cons, List.take_zero, List.drop_zero, List.drop_succ_cons, List.length_map, ↓awD, awP, Nat.reduceLeDiff, Nat.reduceEqDiff, Nat.reduceAdd, Nat.zero_add, Int.cast_ofNat_Int, Int.reduceLT, Int.reduceLE, Int.reduceEq]) | ((first | refine EvF.ret (hca _) ?_ | refine EvRF.ret (hca _) ?_); simp only [w3, aw21, aw20, List.take_succ_cons, List.take_zero, List.drop_zero, List.drop_succ_cons, List.length_map, ↓awD, awP, Nat.reduceLeDiff, Nat.reduceEqDiff, Nat.reduceAdd, Nat.zero_add, Int.cast_ofNat_Int, Int.reduceLT, Int.reduceLE, Int.reduceEq]))
        exact ⟨(i + 1, fewVs a.l (g - 1 - a.names.length)), ⟨hi, ⟨⟨by omega, by omega⟩, hv⟩⟩, by simp only; omega, weak_of (rfl) (by simp [look])⟩
      · rw [fewVs, if_neg h0] at hv
        subst hv
        have d0 : decide (0 ≤ g) = false := by rw [decide_eq_false_iff_not]; exact h0
        simp only [d0, aw20, List.take_succ_cons, List.take_zero, List.drop_zero, List.drop_succ_cons, List.length_map, ↓awD, awP, Nat.reduceLeDiff, Nat.reduceEqDiff, Nat.reduceAdd, Nat.zero_add, Int.cast_ofNat_Int, Int.reduceLT, Int.reduceLE, Int.reduceEq]
        exact Fin.end hcl rfl (by first | rfl | exact (List.append_nil _).symm | (simp only [List.append_assoc]; rfl)) ⟨rfl, rfl⟩
    · rintro g ⟨_, hv⟩ e1
      rw [drop_len] at hv
      simp only [fewVs] at hv
      subst hv
      simp only [e1, aw20, List.take_succ_cons, List.take_zero, List.drop_zero, List.drop_succ_cons, List.length_map, ↓awD, awP, Nat.reduceLeDiff, Nat.reduceEqDiff, Nat.reduceAdd, Nat.zero_add, Int.cast_ofNat_Int, Int.reduceLT, Int.reduceLE, Int.reduceEq]
      exact Fin.end hcl rfl (by first | rfl | exact (List.append_nil _).symm | (simp only [List.append_assoc]; rfl)) ⟨rfl, rfl⟩

theorem fewValues_ev2 (l : List Val) (hm : mxVs l ≤ 2 ^ 48) (n : Int) (hn : -(2 : Int) ^ 49 ≤ n) (hn2 : n ≤ 2 ^ 60) (h : List AObj) : EvR E0 16 [vall l, i64 n] h (boolv (decide (0 ≤ fewVs l n))) := by
  refine ev_of (fn := Tryz.f16) (hs := []) Tryz.func16 c16 (by simp) fun hcl => ?_
  have h1 := fun h => rfewDefs_ev _ l (Nat.le_refl _) hm n hn hn2 h
  simp only [ac16, aw20, List.take_succ_cons, List.take_zero, List.drop_zero, List.drop_succ_cons, List.length_map, ↓awD, awP, Nat.reduceLeDiff, Nat.reduceEqDiff, Nat.reduceAdd, Nat.zero_add, Int.cast_ofNat_Int, Int.reduceLT, Int.reduceLE, Int.reduceEq]
  repeat' ((first | refine EvF.ret (h1 _) ?_ | refine EvRF.ret (h1 _) ?_); simp only [aw21, aw21, aw20, List.take_succ_cons, List.take_zero, List.drop_zero, List.drop_succ_cons, List.length_map, ↓awD, awP, Nat.reduceLeDiff, Nat.reduceEqDiff, Nat.reduceAdd, Nat.zero_add, Int.cast_ofNat_Int, Int.reduceLT, Int.reduceLE, Int.reduceEq])
  all_goals (refine Fin.end hcl rfl (by first | rfl | exact (List.append_nil _).symm | (simp only [List.append_assoc]; rfl)) ⟨?_, rfl⟩; first | rfl | ((try simp only [dnat, decide_eq_true_eq, decide_eq_false_iff_not, List.length_eq_zero_iff, List.length_pos_iff] at *); first | (simp [*, aw21]; done) | (simp [*, aw21]; omega) | (clear hcl; simp [*, aw21] <;> grind) | (simp [*, aw21])))
end Go.Abs.Fr

namespace Go.Abs.Fr
open Go Go.Abs Go.Proofs
set_option linter.unusedSimpArgs false
set_option maxRecDepth 100000

/-- spandrel/spandrellaw15.small -/
def ac9 : ACode := (.seq (.region [⟨(some 2), (.move (.const (.bool false))), none⟩]) (.seq (.seq (.region [⟨(some 6), (.move (.tmp 0)), none⟩, ⟨(some 7), (.len false (.tmp 6)), none⟩, ⟨(some 8), (.bin .gtr (.tmp 7) (.const (.int .i64 60))), none⟩]) (.cond (.tmp 8) (.seq (.region [⟨(some 2), (.move (.const (.bool false))), none⟩]) .ret) .skip)) (.seq (.seq (.region [⟨(some 3), (.move (.const (.int .i64 0))), none⟩]) (.block 0 (.loop (.seq (.seq (.region [⟨(some 9), (.move (.tmp 3)), none⟩, ⟨(some 10), (.move (.tmp 0)), none⟩, ⟨(some 11), (.len false (.tmp 10)), none⟩, ⟨(some 12), (.bin .lss (.tmp 9) (.tmp 11)), none⟩]) (.cond (.tmp 12) .skip (.exit 0))) (.seq (.block 1 (.seq (.seq (.region [⟨(some 15), (.move (.tmp 0)), none⟩, ⟨(some 16), (.move (.tmp 3)), none⟩, ⟨(some 17), (.indexAddr 12 (.tmp 15) (.tmp 16)), none⟩, ⟨(some 18), (.fieldAddr 2 (.tmp 17)), none⟩, ⟨(some 19), (.load none (.tmp 18)), none⟩, ⟨(some 20), (.len false (.tmp 19)), none⟩, ⟨(some 21), (.bin .gtr (.tmp 20) (.const (.int .i64 30))), none⟩, ⟨(some 22), (.move (.tmp 21)), none⟩, ⟨(some 23), (.move (.tmp 0)), (some (22, false))⟩, ⟨(some 24), (.move (.tmp 3)), (some (22, false))⟩, ⟨(some 25), (.indexAddr 12 (.tmp 23) (.tmp 24)), (some (22, false))⟩, ⟨(some 26), (.fieldAddr 6 (.tmp 25)), (some (22, false))⟩, ⟨(some 27), (.load none (.tmp 26)), (some (22, false))⟩, ⟨(some 28), (.len false (.tmp 27)), (some (22, false))⟩, ⟨(some 29), (.bin .gtr (.tmp 28) (.const (.int .i64 60))), (some (22, false))⟩, ⟨(some 30), (.pick (.tmp 22) (.const (.bool true)) (.tmp 29)), none⟩, ⟨(some 31), (.move (.tmp 30)), none⟩, ⟨(some 32), (.move (.tmp 0)), (some (31, false))⟩, ⟨(some 33), (.move (.tmp 3)), (some (31, false))⟩, ⟨(some 34), (.indexAddr 12 (.tmp 32) (.tmp 33)), (some (31, false))⟩, ⟨(some 35), (.fieldAddr 7 (.tmp 34)), (some (31, false))⟩, ⟨(some 36), (.load none (.tmp 35)), (some (31, false))⟩, ⟨(some 37), (.len false (.tmp 36)), (some (31, false))⟩, ⟨(some 38), (.bin .gtr (.tmp 37) (.const (.int .i64 60))), (some (31, false))⟩, ⟨(some 39), (.pick (.tmp 31) (.const (.bool true)) (.tmp 38)), none⟩, ⟨(some 40), (.move (.tmp 39)), none⟩, ⟨(some 41), (.move (.tmp 0)), (some (40, false))⟩, ⟨(some 42), (.move (.tmp 3)), (some (40, false))⟩, ⟨(some 43), (.indexAddr 12 (.tmp 41) (.tmp 42)), (some (40, false))⟩, ⟨(some 44), (.fieldAddr 8 (.tmp 43)), (some (40, false))⟩, ⟨(some 45), (.load none (.tmp 44)), (some (40, false))⟩, ⟨(some 46), (.len false (.tmp 45)), (some (40, false))⟩, ⟨(some 47), (.bin .gtr (.tmp 46) (.const (.int .i64 30))), (some (40, false))⟩, ⟨(some 48), (.pick (.tmp 40) (.const (.bool true)) (.tmp 47)), none⟩, ⟨(some 49), (.move (.tmp 48)), none⟩, ⟨(some 50), (.move (.tmp 0)), (some (49, false))⟩, ⟨(some 51), (.move (.tmp 3)), (some (49, false))⟩, ⟨(some 52), (.indexAddr 12 (.tmp 50) (.tmp 51)), (some (49, false))⟩, ⟨(some 53), (.fieldAddr 9 (.tmp 52)), (some (49, false))⟩, ⟨(some 54), (.load none (.tmp 53)), (some (49, false))⟩, ⟨(some 55), (.len false (.tmp 54)), (some (49, false))⟩, ⟨(some 56), (.bin .gtr (.tmp 55) (.const (.int .i64 30))), (some (49, false))⟩, ⟨(some 57), (.pick (.tmp 49) (.const (.bool true)) (.tmp 56)), none⟩, ⟨(some 58), (.move (.tmp 57)), none⟩, ⟨(some 59), (.move (.tmp 0)), (some (58, false))⟩, ⟨(some 60), (.move (.tmp 3)), (some (58, false))⟩, ⟨(some 61), (.indexAddr 12 (.tmp 59) (.tmp 60)), (some (58, false))⟩, ⟨(some 62), (.fieldAddr 10 (.tmp 61)), (some (58, false))⟩, ⟨(some 63), (.load none (.tmp 62)), (some (58, false))⟩, ⟨(some 64), (.len false (.tmp 63)), (some (58, false))⟩, ⟨(some 65), (.bin .gtr (.tmp 64) (.const (.int .i64 100))), (some (58, false))⟩, ⟨(some 66), (.pick (.tmp 58) (.const (.bool true)) (.tmp 65)), none⟩]) (.cond (.tmp 66) (.seq (.region [⟨(some 2), (.move (.const (.bool false))), none⟩]) .ret) .skip)) (.seq (.region [⟨(some 67), (.move (.tmp 0)), none⟩, ⟨(some 68), (.move (.tmp 3)), none⟩, ⟨(some 69), (.indexAddr 12 (.tmp 67) (.tmp 68)), none⟩, ⟨(some 70), (.load (some 12) (.tmp 69)), none⟩, ⟨(some 71), (.call (.func 18) [((.tmp 70), false)]), none⟩, ⟨(some 4), (.move (.tmp 71)), none⟩]) (.seq (.region [⟨(some 5), (.move (.const (.int .i64 0))), none⟩]) (.block 2 (.loop (.seq (.seq (.region [⟨(some 72), (.move (.tmp 5)), none⟩, ⟨(some 73), (.move (.tmp 4)), none⟩, ⟨(some 74), (.len false (.tmp 73)), none⟩, ⟨(some 75), (.bin .lss (.tmp 72) (.tmp 74)), none⟩]) (.cond (.tmp 75) .skip (.exit 2))) (.seq (.block 3 (.seq (.region [⟨(some 78), (.move (.tmp 4)), none⟩, ⟨(some 79), (.move (.tmp 5)), none⟩, ⟨(some 80), (.indexAddr 4 (.tmp 78) (.tmp 79)), none⟩, ⟨(some 81), (.fieldAddr 3 (.tmp 80)), none⟩, ⟨(some 82), (.load none (.tmp 81)), none⟩, ⟨(some 83), (.call (.func 16) [((.tmp 82), false), ((.const (.int .i64 30)), false)]), none⟩, ⟨(some 84), (.un .not (.tmp 83)), none⟩]) (.cond (.tmp 84) (.seq (.region [⟨(some 2), (.move (.const (.bool false))), none⟩]) .ret) .skip))) (.region [⟨(some 76), (.move (.tmp 5)), none⟩, ⟨(some 77), (.bin .add (.tmp 76) (.const (.int .i64 1))), none⟩, ⟨(some 5), (.move (.tmp 77)), none⟩]))))))))) (.region [⟨(some 13), (.move (.tmp 3)), none⟩, ⟨(some 14), (.bin .add (.tmp 13) (.const (.int .i64 1))), none⟩, ⟨(some 3), (.move (.tmp 14)), none⟩])))))) (.seq (.region [⟨(some 2), (.move (.const (.bool true))), none⟩]) .ret))))
theorem c9 : cfn E0.P [] Tryz.f9 = some (ac9, [(.tmp 2)], 85) := by kernel_rfl
/-- spandrel/spandrelref15.Fields -/
def ac18 : ACode := (.seq (.region [⟨(some 1), (.box (.tmp 0)), none⟩, ⟨(some 2), (.move (.const (.slice none 0 0))), none⟩]) (.seq (.seq (.eff [⟨(some 3), (.buildSlice false 4 [(.lit (.string (⟨#[]⟩ : ByteArray))), (.lit (.int .i64 0)), (.lit (.bool false)), (.sl .full [])] 0 []), none⟩, ⟨(some 4), (.fieldAddr 8 (.tmp 1)), none⟩, ⟨(some 5), (.load none (.tmp 4)), none⟩, ⟨(some 6), (.appendO 4 56 [(.lit (.string (⟨#[]⟩ : ByteArray))), (.lit (.int .i64 0)), (.lit (.bool false)), (.sl .full [])] (.tmp 3) (.tmp 5)), none⟩, ⟨(some 7), (.fieldAddr 9 (.tmp 1)), none⟩, ⟨(some 8), (.load none (.tmp 7)), none⟩, ⟨(some 9), (.appendO 4 56 [(.lit (.string (⟨#[]⟩ : ByteArray))), (.lit (.int .i64 0)), (.lit (.bool false)), (.sl .full [])] (.tmp 6) (.tmp 8)), none⟩] [false, false, false, true, false, false, true]) (.region [⟨(some 2), (.move (.tmp 9)), none⟩])) .ret))
theorem c18 : cfn E0.P [(1,1014),(1,3),(1,503),(1,6),(1,506)] Tryz.f18 = some (ac18, [(.tmp 2)], 10) := by kernel_rfl

def z4 : List AV := [.lit (.string ⟨#[]⟩), .lit (.int .i64 0), .lit (.bool false), .sl .full []]
theorem rfields_ev (r : Dsc) (hl : r.parts.length + r.adds.length ≤ 2 ^ 40) (h : List AObj) : EvR E0 18 [dscv r] h (fldl r.fields) := by
  refine Ev.freezeS z4 4 (flds_fit _) (flds_one _) (unders_of fun x hx => ?_) rfl ?_
  · simp only [flatC, List.mem_flatMap, List.mem_map] at hx
    obtain ⟨_, ⟨c, _, rfl⟩, hx⟩ := hx
    exact flds_und c x hx
  refine ev_of (fn := Tryz.f18) (hs := [(1,1014),(1,3),(1,503),(1,6),(1,506)]) Tryz.func18 c18 (by simp) fun hcl => ?_
  simp only [ac18, dscv_eq, aw20, List.take_succ_cons, List.take_zero, List.drop_zero, List.drop_succ_cons, List.length_map, ↓awD, awP, Nat.reduceLeDiff, Nat.reduceEqDiff, Nat.reduceAdd, Nat.zero_add, Int.cast_ofNat_Int, Int.reduceLT, Int.reduceLE, Int.reduceEq]
  generalize hob : AObj.cells [i64 r.kind, boolv r.ext, rgl r.set, i64 r.lo, i64 r.hi, str r.frm, strl r.names, strl r.more, fldl r.parts, fldl r.adds, intl r.order, i64 r.elem] = oR
  have g0 : (h ++ [oR])[h.length]? = some (AObj.cells [i64 r.kind, boolv r.ext, rgl r.set, i64 r.lo, i64 r.hi, str r.frm, strl r.names, strl r.more, fldl r.parts, fldl r.adds, intl r.order, i64 r.elem]) := by rw [hob]; simp
  refine Need.mk ⟨rfl, by decide, by decide, by simp [litParts]⟩ ?_
  simp only [g0, aw20, List.take_succ_cons, List.take_zero, List.drop_zero, List.drop_succ_cons, List.length_map, ↓awD, awP, Nat.reduceLeDiff, Nat.reduceEqDiff, Nat.reduceAdd, Nat.zero_add, Int.cast_ofNat_Int, Int.reduceLT, Int.reduceLE, Int.reduceEq]
  refine AppO.useN (z := z4) (P := h) (J := [oR]) (lo := h.length) (es := []) rfl rfl (.inl ⟨rfl, rfl⟩) (by decide) rfl (fun e he => by cases he) (flds_fit _) (flds_one _) rfl (flds_strip _) (by simp only [List.length_map, List.length_nil]; omega) (by simp only [List.length_map, List.length_nil]; omega) fun J1 s1 hs1 hF1 hH1 => ?_
  have g1 : (h ++ J1)[h.length]? = some (AObj.cells [i64 r.kind, boolv r.ext, rgl r.set, i64 r.lo, i64 r.hi, str r.frm, strl r.names, strl r.more, fldl r.parts, fldl r.adds, intl r.order, i64 r.elem]) := hF1 _ _ g0 (fun a b hh => by cases hh)
  have o1 := hs1.one
  refine AndF.mk ?_ ?_
  · simp only [g1, aw20, List.take_succ_cons, List.take_zero, List.drop_zero, List.drop_succ_cons, List.length_map, ↓awD, awP, Nat.reduceLeDiff, Nat.reduceEqDiff, Nat.reduceAdd, Nat.zero_add, Int.cast_ofNat_Int, Int.reduceLT, Int.reduceLE, Int.reduceEq]
    refine Need.mk ⟨rfl, by decide, by decide, by simp [litParts]⟩ ?_
    simp only [g1, aw20, List.take_succ_cons, List.take_zero, List.drop_zero, List.drop_succ_cons, List.length_map, ↓awD, awP, Nat.reduceLeDiff, Nat.reduceEqDiff, Nat.reduceAdd, Nat.zero_add, Int.cast_ofNat_Int, Int.reduceLT, Int.reduceLE, Int.reduceEq]
  simp only [g1, o1, List.nil_append, aw20, List.take_succ_cons, List.take_zero, List.drop_zero, List.drop_succ_cons, List.length_map, ↓awD, awP, Nat.reduceLeDiff, Nat.reduceEqDiff, Nat.reduceAdd, Nat.zero_add, Int.cast_ofNat_Int, Int.reduceLT, Int.reduceLE, Int.reduceEq]
  rw [List.nil_append] at hs1
  refine AppO.useN (z := z4) (P := h) (J := J1) (lo := h.length) (es := r.parts.map fldv) rfl rfl hs1 (by decide) rfl (flds_fit _) (flds_fit _) (flds_one _) (flds_strip _) (flds_strip _) (by simp only [List.length_map]; omega) (by simp only [List.length_map]; omega) fun J2 s2 hs2 hF2 hH2 => ?_
  have g2 : (h ++ J2)[h.length]? = some (AObj.cells [i64 r.kind, boolv r.ext, rgl r.set, i64 r.lo, i64 r.hi, str r.frm, strl r.names, strl r.more, fldl r.parts, fldl r.adds, intl r.order, i64 r.elem]) := hF2 _ _ g1 (fun a b hh => by
    rcases hH1 _ _ _ hh with ⟨a', b', hc⟩ | hc
    · cases hc
    · simp at hc; omega)
  have o2 := hs2.one
  refine AndF.mk ?_ ?_
  · simp only [g2, o1, aw20, List.take_succ_cons, List.take_zero, List.drop_zero, List.drop_succ_cons, List.length_map, ↓awD, awP, Nat.reduceLeDiff, Nat.reduceEqDiff, Nat.reduceAdd, Nat.zero_add, Int.cast_ofNat_Int, Int.reduceLT, Int.reduceLE, Int.reduceEq]
    refine Need.mk ⟨rfl, by decide, by decide, by simp [litParts]⟩ ?_
    simp only [g2, o1, aw20, List.take_succ_cons, List.take_zero, List.drop_zero, List.drop_succ_cons, List.length_map, ↓awD, awP, Nat.reduceLeDiff, Nat.reduceEqDiff, Nat.reduceAdd, Nat.zero_add, Int.cast_ofNat_Int, Int.reduceLT, Int.reduceLE, Int.reduceEq]
  simp only [g2, o1, o2, aw20, List.take_succ_cons, List.take_zero, List.drop_zero, List.drop_succ_cons, List.length_map, ↓awD, awP, Nat.reduceLeDiff, Nat.reduceEqDiff, Nat.reduceAdd, Nat.zero_add, Int.cast_ofNat_Int, Int.reduceLT, Int.reduceLE, Int.reduceEq]
  refine Fin.all (by simp) ⟨hcl, s2, J2, rfl, rfl, ?_⟩
  rw [← List.map_append] at hs2
  exact hs2

/-- A table of few rows, of few names and small values each. -/
def smallR (r : Dsc) : Bool := (!(decide (30 < r.set.length) || (decide (60 < r.names.length) || (decide (60 < r.more.length) || (decide (30 < r.parts.length) || (decide (30 < r.adds.length) || decide (100 < r.order.length))))))) && r.fields.all fun f => decide (0 ≤ fewVs f.dfl 30)
def smallT (d : List Dsc) : Bool := decide (d.length ≤ 60) && d.all smallR
/-- What is known of any table that is laid: texts and values of a world's size. -/
def Wide (d : List Dsc) : Prop := d.length ≤ 2 ^ 47 ∧ ∀ r, r ∈ d → r.set.length ≤ 2 ^ 47 ∧ r.frm.size ≤ 2 ^ 47 ∧ r.names.length ≤ 2 ^ 47 ∧ r.more.length ≤ 2 ^ 47 ∧ r.parts.length ≤ 2 ^ 47 ∧ r.adds.length ≤ 2 ^ 47 ∧ r.order.length ≤ 2 ^ 47 ∧ ∀ f, f ∈ r.fields → f.name.size ≤ 2 ^ 47 ∧ mxVs f.dfl ≤ 2 ^ 47
theorem smallR_bd {r : Dsc} (hs : smallR r = true) (hw : r.frm.size ≤ 2 ^ 47 ∧ ∀ f, f ∈ r.fields → f.name.size ≤ 2 ^ 47 ∧ mxVs f.dfl ≤ 2 ^ 47) : BD (2 ^ 30) r := by
  simp only [smallR, Bool.and_eq_true, Bool.not_eq_true', Bool.or_eq_false_iff, decide_eq_false_iff_not] at hs
  obtain ⟨⟨h1, h2, h3, h4, h5, h6⟩, _⟩ := hs
  exact ⟨by omega, hw.1, by omega, by omega, by omega, by omega, by omega, fun f hf => hw.2 f (List.mem_append_left _ hf), fun f hf => hw.2 f (List.mem_append_right _ hf)⟩
theorem small_ev (d : List Dsc) (hw : Wide d) (h : List AObj) : EvR E0 9 [dscl d] h (boolv (smallT d)) := by
  refine ev_of (fn := Tryz.f9) (hs := []) Tryz.func9 c9 (by simp) fun hcl => ?_
  have d0 : decide ((60 : Int) < (d.length : Int)) = !decide (d.length ≤ 60) := by rw [Bool.eq_iff_iff]; simp; omega
  cases hd : decide (d.length ≤ 60)
  · rw [hd] at d0
    have hR : smallT d = false := by simp [smallT, hd]
    rw [hR]
    simp only [ac9, d0, aw20, List.take_succ_cons, List.take_zero, List.drop_zero, List.drop_succ_cons, List.length_map, ↓awD, awP, Nat.reduceLeDiff, Nat.reduceEqDiff, Nat.reduceAdd, Nat.zero_add, Int.cast_ofNat_Int, Int.reduceLT, Int.reduceLE, Int.reduceEq]
    exact Fin.end hcl rfl (by first | rfl | exact (List.append_nil _).symm | (simp only [List.append_assoc]; rfl)) ⟨rfl, rfl⟩
  · rw [hd] at d0
    have hR : smallT d = d.all smallR := by simp [smallT, hd]
    rw [hR]
    generalize hRR : d.all smallR = R
    simp only [ac9, d0, aw20, List.take_succ_cons, List.take_zero, List.drop_zero, List.drop_succ_cons, List.length_map, ↓awD, awP, Nat.reduceLeDiff, Nat.reduceEqDiff, Nat.reduceAdd, Nat.zero_add, Int.cast_ofNat_Int, Int.reduceLT, Int.reduceLE, Int.reduceEq]
    have hw0 := hw.1
    refine LoopF.list d (by omega) (γ := Unit) (fun i _ => ⟨[(0, dscl d), (3, i64 i)], h⟩) (fun i _ => (d.drop i).all smallR = R) () (by simpa using hRR) (weak_of rfl (by simp [look])) ?_ ?_
    · rintro i r _ ha hv hi e1 w3
      rw [drop_get ha, List.all_cons] at hv
      have hrm := List.mem_of_getElem? ha
      have hga := map_get dscv d i r ha
      obtain ⟨w1, w2, w4, w5, w6, w7, w8, w9⟩ := hw.2 r hrm
      have c1 : decide ((30 : Int) < (r.set.length : Int)) = decide (30 < r.set.length) := by rw [decide_eq_decide]; omega
      have c2 : decide ((60 : Int) < (r.names.length : Int)) = decide (60 < r.names.length) := by rw [decide_eq_decide]; omega
      have c3 : decide ((60 : Int) < (r.more.length : Int)) = decide (60 < r.more.length) := by rw [decide_eq_decide]; omega
      have c4 : decide ((30 : Int) < (r.parts.length : Int)) = decide (30 < r.parts.length) := by rw [decide_eq_decide]; omega
      have c5 : decide ((30 : Int) < (r.adds.length : Int)) = decide (30 < r.adds.length) := by rw [decide_eq_decide]; omega
      have c6 : decide ((100 : Int) < (r.order.length : Int)) = decide (100 < r.order.length) := by rw [decide_eq_decide]; omega
      have hfs := fun (k1 : decide (30 < r.parts.length) = false) (k2 : decide (30 < r.adds.length) = false) h => rfields_ev r (by rw [decide_eq_false_iff_not] at k1 k2; omega) h
      simp only [dscv_eq] at hfs
      have hfl2 : r.fields.length < 2 ^ 60 := by simp only [Dsc.fields, List.length_append]; omega
      simp only [e1, aw20, List.take_succ_cons, List.take_zero, List.drop_zero, List.drop_succ_cons, List.length_map, ↓awD, awP, Nat.reduceLeDiff, Nat.reduceEqDiff, Nat.reduceAdd, Nat.zero_add, Int.cast_ofNat_Int, Int.reduceLT, Int.reduceLE, Int.reduceEq]
      repeat' (first | ((first | refine Need.mk (by first | (first | omega | (simp only [decide_eq_true_eq, decide_eq_false_iff_not, Bool.and_eq_true, Bool.not_eq_true', Bool.not_eq_false', List.length_map] at *; omega) | (simp; omega)) | (constructor <;> (first | omega | (simp only [decide_eq_true_eq, decide_eq_false_iff_not, Bool.and_eq_true, Bool.not_eq_true', Bool.not_eq_false', List.length_map] at *; omega) | (simp; omega)))) (Elem.recs hga (by first | (rw [dscv_eq]; exact ⟨rfl, rfl⟩) | exact ⟨rfl, rfl⟩) ?_) | refine Elem.recs hga (by first | (rw [dscv_eq]; exact ⟨rfl, rfl⟩) | exact ⟨rfl, rfl⟩) ?_); simp only [dscv_eq, c1, c2, c3, c4, c5, c6, w3, aw21, aw20, List.take_succ_cons, List.take_zero, List.drop_zero, List.drop_succ_cons, List.length_map, ↓awD, awP, Nat.reduceLeDiff, Nat.reduceEqDiff, Nat.reduceAdd, Nat.zero_add, Int.cast_ofNat_Int, Int.reduceLT, Int.reduceLE, Int.reduceEq]) | ((first | refine EvF.ret (hfs (by assumption) (by assumption) _) ?_ | refine EvRF.ret (hfs (by assumption) (by assumption) _) ?_); simp only [w3, aw21, aw20, List.take_succ_cons, List.take_zero, List.drop_zero, List.drop_succ_cons, List.length_map, ↓awD, awP, Nat.reduceLeDiff, Nat.reduceEqDiff, Nat.reduceAdd, Nat.zero_add, Int.cast_ofNat_Int, Int.reduceLT, Int.reduceLE, Int.reduceEq]) | (refine BrF.mk (fun hb => ?_) (fun hb => ?_) <;> (try rw [hb]) <;> simp only [c1, c2, c3, c4, c5, c6, w3, aw21, aw20, List.take_succ_cons, List.take_zero, List.drop_zero, List.drop_succ_cons, List.length_map, ↓awD, awP, Nat.reduceLeDiff, Nat.reduceEqDiff, Nat.reduceAdd, Nat.zero_add, Int.cast_ofNat_Int, Int.reduceLT, Int.reduceLE, Int.reduceEq]))
      iterate 6
        · clear hfs; simp only [smallR, *, Bool.true_or, Bool.or_true, Bool.false_or, Bool.or_false, Bool.not_true, Bool.false_and] at hv
          subst hv
          exact Fin.end hcl rfl (by first | rfl | exact (List.append_nil _).symm | (simp only [List.append_assoc]; rfl)) ⟨rfl, rfl⟩
      generalize hrest : (d.drop (i + 1)).all smallR = rest at hv
      have hv' : ((r.fields.all fun f => decide (0 ≤ fewVs f.dfl 30)) && rest) = R := by
        clear hfs
        simp only [smallR, *, Bool.or_false, Bool.false_or, Bool.not_false, Bool.true_and] at hv; exact hv
      refine LoopF.list r.fields hfl2 (γ := Unit) (fun j _ => ⟨[(0, dscl d), (3, i64 i), (4, fldl r.fields), (5, i64 j)], h⟩) (fun j _ => ((r.fields.drop j).all (fun f => decide (0 ≤ fewVs f.dfl 30)) && rest) = R) () (by simpa using hv') (weak_of rfl (by simp [look])) ?_ ?_
      · rintro j f _ hfa hvj hj e2 w3j
        rw [drop_get hfa, List.all_cons] at hvj
        have hgf := map_get fldv r.fields j f hfa
        have hfw := fun h => fewValues_ev2 f.dfl (by have := (w9 f (List.mem_of_getElem? hfa)).2; omega) 30 (by omega) (by omega) h
        simp only [e2, w3j, aw20, List.take_succ_cons, List.take_zero, List.drop_zero, List.drop_succ_cons, List.length_map, ↓awD, awP, Nat.reduceLeDiff, Nat.reduceEqDiff, Nat.reduceAdd, Nat.zero_add, Int.cast_ofNat_Int, Int.reduceLT, Int.reduceLE, Int.reduceEq]
        repeat' (first | ((first | refine Need.mk (by first | (first | omega | (simp only [decide_eq_true_eq, decide_eq_false_iff_not, Bool.and_eq_true, Bool.not_eq_true', Bool.not_eq_false', List.length_map] at *; omega) | (simp; omega)) | (constructor <;> (first | omega | (simp only [decide_eq_true_eq, decide_eq_false_iff_not, Bool.and_eq_true, Bool.not_eq_true', Bool.not_eq_false', List.length_map] at *; omega) | (simp; omega)))) (Elem.recs hgf (by first | (rw [fldv_eq]; exact ⟨rfl, rfl⟩) | exact ⟨rfl, rfl⟩) ?_) | refine Elem.recs hgf (by first | (rw [fldv_eq]; exact ⟨rfl, rfl⟩) | exact ⟨rfl, rfl⟩) ?_); simp only [fldv_eq, w3j, aw21, aw20, List.take_succ_cons, List.take_zero, List.drop_zero, List.drop_succ_cons, List.length_map, ↓awD, awP, Nat.reduceLeDiff, Nat.reduceEqDiff, Nat.reduceAdd, Nat.zero_add, Int.cast_ofNat_Int, Int.reduceLT, Int.reduceLE, Int.reduceEq]) | ((first | refine EvF.ret (hfw _) ?_ | refine EvRF.ret (hfw _) ?_); simp only [w3j, aw21, aw20, List.take_succ_cons, List.take_zero, List.drop_zero, List.drop_succ_cons, List.length_map, ↓awD, awP, Nat.reduceLeDiff, Nat.reduceEqDiff, Nat.reduceAdd, Nat.zero_add, Int.cast_ofNat_Int, Int.reduceLT, Int.reduceLE, Int.reduceEq]) | (refine BrF.mk (fun hb => ?_) (fun hb => ?_) <;> (try rw [hb]) <;> simp only [w3j, aw21, aw20, List.take_succ_cons, List.take_zero, List.drop_zero, List.drop_succ_cons, List.length_map, ↓awD, awP, Nat.reduceLeDiff, Nat.reduceEqDiff, Nat.reduceAdd, Nat.zero_add, Int.cast_ofNat_Int, Int.reduceLT, Int.reduceLE, Int.reduceEq]))
        · rw [hb, Bool.true_and] at hvj
          exact ⟨(j + 1, ()), ⟨hj, hvj⟩, by simp only; omega, weak_of rfl (by simp [look])⟩
        · rw [hb, Bool.false_and, Bool.false_and] at hvj
          subst hvj
          exact Fin.end hcl rfl (by first | rfl | exact (List.append_nil _).symm | (simp only [List.append_assoc]; rfl)) ⟨rfl, rfl⟩
      · rintro _ hvj e2
        rw [drop_len] at hvj
        simp only [List.all_nil, Bool.true_and] at hvj
        simp only [e2, w3, aw20, List.take_succ_cons, List.take_zero, List.drop_zero, List.drop_succ_cons, List.length_map, ↓awD, awP, Nat.reduceLeDiff, Nat.reduceEqDiff, Nat.reduceAdd, Nat.zero_add, Int.cast_ofNat_Int, Int.reduceLT, Int.reduceLE, Int.reduceEq]
        exact ⟨(i + 1, ()), ⟨hi, by rw [hrest]; exact hvj⟩, by simp only; omega, weak_of (rfl) (by simp [look])⟩
    · rintro _ hv e1
      rw [drop_len] at hv
      simp only [List.all_nil] at hv
      subst hv
      simp only [e1, aw20, List.take_succ_cons, List.take_zero, List.drop_zero, List.drop_succ_cons, List.length_map, ↓awD, awP, Nat.reduceLeDiff, Nat.reduceEqDiff, Nat.reduceAdd, Nat.zero_add, Int.cast_ofNat_Int, Int.reduceLT, Int.reduceLE, Int.reduceEq]
      exact Fin.end hcl rfl (by first | rfl | exact (List.append_nil _).symm | (simp only [List.append_assoc]; rfl)) ⟨rfl, rfl⟩
end Go.Abs.Fr
