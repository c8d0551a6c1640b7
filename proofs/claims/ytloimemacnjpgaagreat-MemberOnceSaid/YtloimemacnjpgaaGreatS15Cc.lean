/- The library's concatenations. -/
import Derived.Test.YtloimemacnjpgaaGreatS15RdV
set_option linter.all false
namespace Go.Abs.Fr
open Go Go.Abs Go.Proofs
set_option linter.unusedSimpArgs false
set_option maxRecDepth 100000

/-- slices.Concat[[]spandrel/api.Field,spandrel/api.Field] -/
def ac46 : ACode := (.seq (.region [⟨(some 2), (.move (.const (.slice none 0 0))), none⟩]) (.seq (.region [⟨(some 3), (.move (.const (.int .i64 0))), none⟩]) (.seq (.seq (.region [⟨(some 9), (.move (.tmp 0)), none⟩, ⟨(some 10), (.len false (.tmp 9)), none⟩, ⟨(some 11), (.move (.const (.int .i64 0))), none⟩]) (.block 0 (.loop (.seq (.region [⟨(some 12), (.bin .lss (.tmp 11) (.tmp 10)), none⟩]) (.seq (.cond (.tmp 12) .skip (.exit 0)) (.seq (.block 1 (.seq (.region [⟨(some 13), (.indexAddr 1 (.tmp 9) (.tmp 11)), none⟩, ⟨(some 14), (.load none (.tmp 13)), none⟩, ⟨(some 5), (.move (.tmp 14)), none⟩]) (.seq (.region [⟨(some 15), (.move (.tmp 3)), none⟩, ⟨(some 16), (.move (.tmp 5)), none⟩, ⟨(some 17), (.len false (.tmp 16)), none⟩, ⟨(some 18), (.bin .add (.tmp 15) (.tmp 17)), none⟩, ⟨(some 3), (.move (.tmp 18)), none⟩]) (.seq (.region [⟨(some 19), (.move (.tmp 3)), none⟩, ⟨(some 20), (.bin .lss (.tmp 19) (.const (.int .i64 0))), none⟩]) (.cond (.tmp 20) (.region [⟨(some 21), (.mkIface 9 (.const (.string (⟨#[108, 101, 110, 32, 111, 117, 116, 32, 111, 102, 32, 114, 97, 110, 103, 101]⟩ : ByteArray)))), none⟩, ⟨none, (.panic (.tmp 21)), none⟩]) .skip))))) (.region [⟨(some 22), (.bin .add (.tmp 11) (.const (.int .i64 1))), none⟩, ⟨(some 11), (.move (.tmp 22)), none⟩]))))))) (.seq (.region [⟨(some 23), (.move (.tmp 3)), none⟩, ⟨(some 24), (.call (.func 68) [((.const (.slice none 0 0)), false), ((.tmp 23), false)]), none⟩, ⟨(some 6), (.move (.tmp 24)), none⟩]) (.seq (.seq (.region [⟨(some 25), (.move (.tmp 0)), none⟩, ⟨(some 26), (.len false (.tmp 25)), none⟩, ⟨(some 27), (.move (.const (.int .i64 0))), none⟩]) (.block 2 (.loop (.seq (.region [⟨(some 28), (.bin .lss (.tmp 27) (.tmp 26)), none⟩]) (.seq (.cond (.tmp 28) .skip (.exit 2)) (.seq (.block 3 (.seq (.region [⟨(some 29), (.indexAddr 1 (.tmp 25) (.tmp 27)), none⟩, ⟨(some 30), (.load none (.tmp 29)), none⟩, ⟨(some 8), (.move (.tmp 30)), none⟩]) (.region [⟨(some 31), (.move (.tmp 6)), none⟩, ⟨(some 32), (.move (.tmp 8)), none⟩, ⟨(some 33), (.appendO 4 56 [(.lit (.string (⟨#[]⟩ : ByteArray))), (.lit (.int .i64 0)), (.lit (.bool false)), (.sl .full [])] (.tmp 31) (.tmp 32)), none⟩, ⟨(some 6), (.move (.tmp 33)), none⟩]))) (.region [⟨(some 34), (.bin .add (.tmp 27) (.const (.int .i64 1))), none⟩, ⟨(some 27), (.move (.tmp 34)), none⟩]))))))) (.seq (.region [⟨(some 35), (.move (.tmp 6)), none⟩, ⟨(some 2), (.move (.tmp 35)), none⟩]) .ret))))))
theorem c46 : cfn E0.P [(13,2)] Tryz.f46 = some (ac46, [(.tmp 2)], 36) := by kernel_rfl
/-- slices.Grow[[]spandrel/api.Field,spandrel/api.Field] -/
def ac68 : ACode := (.seq (.region [⟨(some 4), (.move (.const (.slice none 0 0))), none⟩]) (.seq (.seq (.region [⟨(some 5), (.move (.tmp 1)), none⟩, ⟨(some 6), (.bin .lss (.tmp 5) (.const (.int .i64 0))), none⟩]) (.cond (.tmp 6) (.region [⟨(some 7), (.mkIface 9 (.const (.string (⟨#[99, 97, 110, 110, 111, 116, 32, 98, 101, 32, 110, 101, 103, 97, 116, 105, 118, 101]⟩ : ByteArray)))), none⟩, ⟨none, (.panic (.tmp 7)), none⟩]) .skip)) (.seq (.seq (.region [⟨(some 8), (.move (.tmp 1)), none⟩, ⟨(some 9), (.move (.tmp 0)), none⟩, ⟨(some 10), (.capS (.tmp 9)), none⟩, ⟨(some 11), (.move (.tmp 0)), none⟩, ⟨(some 12), (.len false (.tmp 11)), none⟩, ⟨(some 13), (.bin .sub (.tmp 10) (.tmp 12)), none⟩, ⟨(some 14), (.bin .sub (.tmp 8) (.tmp 13)), none⟩, ⟨(some 1), (.move (.tmp 14)), none⟩]) (.seq (.region [⟨(some 15), (.move (.tmp 1)), none⟩, ⟨(some 16), (.bin .gtr (.tmp 15) (.const (.int .i64 0))), none⟩]) (.cond (.tmp 16) (.region [⟨(some 17), (.move (.tmp 0)), none⟩, ⟨(some 18), (.move (.tmp 0)), none⟩, ⟨(some 19), (.capS (.tmp 18)), none⟩, ⟨(some 20), (.slice 4 (.tmp 17) none (some (.tmp 19))), none⟩, ⟨(some 21), (.move (.tmp 1)), none⟩, ⟨(some 22), (.appendZ 4 56 [(.lit (.string (⟨#[]⟩ : ByteArray))), (.lit (.int .i64 0)), (.lit (.bool false)), (.sl .full [])] (.tmp 20) (.tmp 21)), none⟩, ⟨(some 23), (.move (.tmp 0)), none⟩, ⟨(some 24), (.len false (.tmp 23)), none⟩, ⟨(some 25), (.slice 4 (.tmp 22) none (some (.tmp 24))), none⟩, ⟨(some 0), (.move (.tmp 25)), none⟩]) .skip))) (.seq (.region [⟨(some 26), (.move (.tmp 0)), none⟩, ⟨(some 4), (.move (.tmp 26)), none⟩]) .ret))))
theorem c68 : cfn E0.P [] Tryz.f68 = some (ac68, [(.tmp 4)], 27) := by kernel_rfl
/-- slices.Concat[[]string,string] -/
def ac79 : ACode := (.seq (.region [⟨(some 2), (.move (.const (.slice none 0 0))), none⟩]) (.seq (.region [⟨(some 3), (.move (.const (.int .i64 0))), none⟩]) (.seq (.seq (.region [⟨(some 9), (.move (.tmp 0)), none⟩, ⟨(some 10), (.len false (.tmp 9)), none⟩, ⟨(some 11), (.move (.const (.int .i64 0))), none⟩]) (.block 0 (.loop (.seq (.region [⟨(some 12), (.bin .lss (.tmp 11) (.tmp 10)), none⟩]) (.seq (.cond (.tmp 12) .skip (.exit 0)) (.seq (.block 1 (.seq (.region [⟨(some 13), (.indexAddr 1 (.tmp 9) (.tmp 11)), none⟩, ⟨(some 14), (.load none (.tmp 13)), none⟩, ⟨(some 5), (.move (.tmp 14)), none⟩]) (.seq (.region [⟨(some 15), (.move (.tmp 3)), none⟩, ⟨(some 16), (.move (.tmp 5)), none⟩, ⟨(some 17), (.len false (.tmp 16)), none⟩, ⟨(some 18), (.bin .add (.tmp 15) (.tmp 17)), none⟩, ⟨(some 3), (.move (.tmp 18)), none⟩]) (.seq (.region [⟨(some 19), (.move (.tmp 3)), none⟩, ⟨(some 20), (.bin .lss (.tmp 19) (.const (.int .i64 0))), none⟩]) (.cond (.tmp 20) (.region [⟨(some 21), (.mkIface 9 (.const (.string (⟨#[108, 101, 110, 32, 111, 117, 116, 32, 111, 102, 32, 114, 97, 110, 103, 101]⟩ : ByteArray)))), none⟩, ⟨none, (.panic (.tmp 21)), none⟩]) .skip))))) (.region [⟨(some 22), (.bin .add (.tmp 11) (.const (.int .i64 1))), none⟩, ⟨(some 11), (.move (.tmp 22)), none⟩]))))))) (.seq (.region [⟨(some 23), (.move (.tmp 3)), none⟩, ⟨(some 24), (.call (.func 92) [((.const (.slice none 0 0)), false), ((.tmp 23), false)]), none⟩, ⟨(some 6), (.move (.tmp 24)), none⟩]) (.seq (.seq (.region [⟨(some 25), (.move (.tmp 0)), none⟩, ⟨(some 26), (.len false (.tmp 25)), none⟩, ⟨(some 27), (.move (.const (.int .i64 0))), none⟩]) (.block 2 (.loop (.seq (.region [⟨(some 28), (.bin .lss (.tmp 27) (.tmp 26)), none⟩]) (.seq (.cond (.tmp 28) .skip (.exit 2)) (.seq (.block 3 (.seq (.region [⟨(some 29), (.indexAddr 1 (.tmp 25) (.tmp 27)), none⟩, ⟨(some 30), (.load none (.tmp 29)), none⟩, ⟨(some 8), (.move (.tmp 30)), none⟩]) (.region [⟨(some 31), (.move (.tmp 6)), none⟩, ⟨(some 32), (.move (.tmp 8)), none⟩, ⟨(some 33), (.appendO 1 16 [(.lit (.string (⟨#[]⟩ : ByteArray)))] (.tmp 31) (.tmp 32)), none⟩, ⟨(some 6), (.move (.tmp 33)), none⟩]))) (.region [⟨(some 34), (.bin .add (.tmp 27) (.const (.int .i64 1))), none⟩, ⟨(some 27), (.move (.tmp 34)), none⟩]))))))) (.seq (.region [⟨(some 35), (.move (.tmp 6)), none⟩, ⟨(some 2), (.move (.tmp 35)), none⟩]) .ret))))))
theorem c79 : cfn E0.P [(13,2)] Tryz.f79 = some (ac79, [(.tmp 2)], 36) := by kernel_rfl
/-- slices.Grow[[]string,string] -/
def ac92 : ACode := (.seq (.region [⟨(some 4), (.move (.const (.slice none 0 0))), none⟩]) (.seq (.seq (.region [⟨(some 5), (.move (.tmp 1)), none⟩, ⟨(some 6), (.bin .lss (.tmp 5) (.const (.int .i64 0))), none⟩]) (.cond (.tmp 6) (.region [⟨(some 7), (.mkIface 9 (.const (.string (⟨#[99, 97, 110, 110, 111, 116, 32, 98, 101, 32, 110, 101, 103, 97, 116, 105, 118, 101]⟩ : ByteArray)))), none⟩, ⟨none, (.panic (.tmp 7)), none⟩]) .skip)) (.seq (.seq (.region [⟨(some 8), (.move (.tmp 1)), none⟩, ⟨(some 9), (.move (.tmp 0)), none⟩, ⟨(some 10), (.capS (.tmp 9)), none⟩, ⟨(some 11), (.move (.tmp 0)), none⟩, ⟨(some 12), (.len false (.tmp 11)), none⟩, ⟨(some 13), (.bin .sub (.tmp 10) (.tmp 12)), none⟩, ⟨(some 14), (.bin .sub (.tmp 8) (.tmp 13)), none⟩, ⟨(some 1), (.move (.tmp 14)), none⟩]) (.seq (.region [⟨(some 15), (.move (.tmp 1)), none⟩, ⟨(some 16), (.bin .gtr (.tmp 15) (.const (.int .i64 0))), none⟩]) (.cond (.tmp 16) (.region [⟨(some 17), (.move (.tmp 0)), none⟩, ⟨(some 18), (.move (.tmp 0)), none⟩, ⟨(some 19), (.capS (.tmp 18)), none⟩, ⟨(some 20), (.slice 1 (.tmp 17) none (some (.tmp 19))), none⟩, ⟨(some 21), (.move (.tmp 1)), none⟩, ⟨(some 22), (.appendZ 1 16 [(.lit (.string (⟨#[]⟩ : ByteArray)))] (.tmp 20) (.tmp 21)), none⟩, ⟨(some 23), (.move (.tmp 0)), none⟩, ⟨(some 24), (.len false (.tmp 23)), none⟩, ⟨(some 25), (.slice 1 (.tmp 22) none (some (.tmp 24))), none⟩, ⟨(some 0), (.move (.tmp 25)), none⟩]) .skip))) (.seq (.region [⟨(some 26), (.move (.tmp 0)), none⟩, ⟨(some 4), (.move (.tmp 26)), none⟩]) .ret))))
theorem c92 : cfn E0.P [] Tryz.f92 = some (ac92, [(.tmp 4)], 27) := by kernel_rfl

theorem und_lits {α : Type} (f : α → AV) (hf : ∀ a n, AV.under n (f a) = true) (n : Nat) : ∀ (l : List α), unders n (l.map f) = true := fun l => unders_of fun x hx => by
  obtain ⟨c, _, rfl⟩ := List.mem_map.1 hx; exact hf c n
mutual
theorem und_val (n : Nat) : ∀ (v : Val), AV.under n (valv v) = true
  | .mk k m s ns l _ => by
    have h1 := und_lits (fun s : ByteArray => str s) (fun _ _ => rfl) n ns
    have h2 := und_valsv n l
    simp only [valv, AV.under, unders, Bool.and_eq_true, Bool.and_true, true_and]
    exact ⟨h1, h2⟩
theorem und_valsv (n : Nat) : ∀ (l : List Val), unders n (valsv l) = true
  | [] => rfl
  | v :: l => by simp only [valsv, unders, Bool.and_eq_true]; exact ⟨und_val n v, und_valsv n l⟩
end
theorem und_vals (n : Nat) (l : List Val) : unders n (l.map valv) = true := by rw [← valsv_map]; exact und_valsv n l

theorem und_strs (n : Nat) (l : List ByteArray) : unders n (l.map fun s => AV.lit (.string s)) = true := und_lits _ (fun _ _ => rfl) n l
theorem und_ints (n : Nat) (l : List Int) : unders n (l.map fun s => AV.lit (.int .i64 s)) = true := und_lits _ (fun _ _ => rfl) n l
theorem und_rgs (n : Nat) (l : List Rg) : unders n (l.map rgv) = true := und_lits _ (fun _ _ => rfl) n l
theorem und_flds (n : Nat) (l : List Fld) : unders n (l.map fldv) = true := und_lits _ (fun a n => by simp only [fldv, AV.under, unders, und_vals, Bool.and_self]) n l
theorem und_dsc (n : Nat) (d : Dsc) : AV.under n (dscv d) = true := by simp only [dscv, AV.under, unders, und_strs, und_ints, und_rgs, und_flds, Bool.and_self]
theorem und_dscs (n : Nat) (l : List Dsc) : unders n (l.map dscv) = true := und_lits _ (fun a n => und_dsc n a) n l

theorem flds_fit (l : List Fld) : Fit 4 (l.map fldv) := by
  intro e he; obtain ⟨c, _, rfl⟩ := List.mem_map.1 he; exact ⟨rfl, rfl⟩
theorem flds_one (l : List Fld) : allOne (l.map fldv) := by
  intro e he; obtain ⟨c, _, rfl⟩ := List.mem_map.1 he; rfl
theorem flds_strip : ∀ (l : List Fld), (flatC (l.map fldv)).map AV.strip = flatC (l.map fldv)
  | [] => rfl
  | a :: l => by
    have := flds_strip l
    simp only [flatC] at this ⊢
    simp only [List.map_cons, List.flatMap_cons, List.map_append, this]
    rfl
theorem flds_und {n : Nat} (c : Fld) : ∀ x, x ∈ (fldv c).cells → AV.under n x = true := by
  intro x hx
  have : unders n (fldv c).cells = true := (by simp [fldv, AV.cells, unders, AV.under, und_vals])
  obtain ⟨i, hi⟩ := List.getElem?_of_mem hx
  exact unders_get this hi
theorem flds_grow (n : Int) (h : List AObj) (h0 : 0 ≤ n) (hn : n ≤ 2 ^ 40) : Ev E0 68 [.sl .full [], i64 n] h (fun r h' => (n = 0 ∧ r = .ret (.sl .full []) ∧ h' = h) ∨
    (0 < n ∧ ∃ cap : Nat, n ≤ cap ∧ r = .ret (.vw h.length 0 0 cap) ∧ h' = h ++ [AObj.cells (dynL [.lit (.string ⟨#[]⟩), .lit (.int .i64 0), .lit (.bool false), .sl .full []] [] cap)])) := by
  refine ev_of (fn := Tryz.f68) (hs := []) Tryz.func68 c68 (by simp) fun hcl => ?_
  have d0 : decide (n < 0) = false := by rw [decide_eq_false_iff_not]; omega
  have w0 : IntKind.i64.wrap ((0 : Int) - 0) = 0 := rfl
  have w1 : IntKind.i64.wrap (n - 0) = n := by rw [wrap_i64] <;> omega
  simp only [ac68, d0, w0, w1, List.length_nil, Int.cast_ofNat_Int, aw20, List.take_succ_cons, List.take_zero, List.drop_zero, List.drop_succ_cons, List.length_map, ↓awD, awP, Nat.reduceLeDiff, Nat.reduceEqDiff, Nat.reduceAdd, Nat.zero_add, Int.cast_ofNat_Int, Int.reduceLT, Int.reduceLE, Int.reduceEq]
  refine BrF.mk (fun hb => ?_) (fun hb => ?_) <;> (try rw [hb]) <;> simp only [aw20, List.take_succ_cons, List.take_zero, List.drop_zero, List.drop_succ_cons, List.length_map, ↓awD, awP, Nat.reduceLeDiff, Nat.reduceEqDiff, Nat.reduceAdd, Nat.zero_add, Int.cast_ofNat_Int, Int.reduceLT, Int.reduceLE, Int.reduceEq]
  · rw [decide_eq_true_eq] at hb
    refine Need.mk (by simp) ?_
    simp only [List.take_nil, List.drop_nil, aw20, List.take_succ_cons, List.take_zero, List.drop_zero, List.drop_succ_cons, List.length_map, ↓awD, awP, Nat.reduceLeDiff, Nat.reduceEqDiff, Nat.reduceAdd, Nat.zero_add, Int.cast_ofNat_Int, Int.reduceLT, Int.reduceLE, Int.reduceEq]
    refine Need.mk (by (repeat' apply And.intro) <;> first | decide | rfl | omega) (ZerF.mk (fun h => absurd h (by omega)) (fun _ cap' hc => ?_))
    simp only [dyn_zero _ _ _ hc, offAt0, aw20, List.take_succ_cons, List.take_zero, List.drop_zero, List.drop_succ_cons, List.length_map, ↓awD, awP, Nat.reduceLeDiff, Nat.reduceEqDiff, Nat.reduceAdd, Nat.zero_add, Int.cast_ofNat_Int, Int.reduceLT, Int.reduceLE, Int.reduceEq]
    refine Need.mk (by omega) ?_
    simp only [offAt0, Int.toNat_zero, Nat.sub_zero, aw20, List.take_succ_cons, List.take_zero, List.drop_zero, List.drop_succ_cons, List.length_map, ↓awD, awP, Nat.reduceLeDiff, Nat.reduceEqDiff, Nat.reduceAdd, Nat.zero_add, Int.cast_ofNat_Int, Int.reduceLT, Int.reduceLE, Int.reduceEq]
    exact Fin.here (by simp) (hcl.app (unders_dyn rfl rfl)) (by simp [AV.under]) (.inr ⟨hb, cap', by omega, rfl, rfl⟩)
  · rw [decide_eq_false_iff_not] at hb
    exact Fin.same0 hcl rfl (.inl ⟨by omega, rfl, rfl⟩)
def flds_lst (l : List Fld) : AV := .sl .unk (l.map fldv)
theorem flds_cat (ls : List (List Fld)) (h : List AObj) (hl : ls.length ≤ 2 ^ 30) (hs : ls.flatten.length ≤ 2 ^ 40) : EvR E0 46 [.sl .full (ls.map flds_lst)] h (.sl .unk (ls.flatten.map fldv)) := by
  refine Ev.frozen [.lit (.string ⟨#[]⟩), .lit (.int .i64 0), .lit (.bool false), .sl .full []] 4 (flds_fit _) (flds_one _) ?_ rfl ?_
  · refine unders_of fun x hx => ?_
    simp only [flatC, List.mem_flatMap, List.mem_map] at hx
    obtain ⟨_, ⟨c, _, rfl⟩, hx⟩ := hx
    exact flds_und c x hx
  refine ev_of (fn := Tryz.f46) (hs := [(13, 2)]) Tryz.func46 c46 (by simp) fun hcl => ?_
  simp only [ac46, aw20, List.take_succ_cons, List.take_zero, List.drop_zero, List.drop_succ_cons, List.length_map, ↓awD, awP, Nat.reduceLeDiff, Nat.reduceEqDiff, Nat.reduceAdd, Nat.zero_add, Int.cast_ofNat_Int, Int.reduceLT, Int.reduceLE, Int.reduceEq]
  refine LoopF.cut 0 (fun σ => σ.heap = h ∧ look σ.tmps 0 = .sl .full (ls.map flds_lst) ∧ look σ.tmps 3 = i64 ls.flatten.length) ?_ ?_
  · intro Q' hx _ _
    refine LoopF.list ls (by omega) (γ := Nat) (fun i g => ⟨[(0, .sl .full (ls.map flds_lst)), (3, i64 g), (9, .sl .full (ls.map flds_lst)), (10, i64 ls.length), (11, i64 i)], h⟩)
      (fun i g => g + (ls.drop i).flatten.length = ls.flatten.length) 0 (by simp) (weak_of rfl (by simp [look])) ?_ ?_
    · rintro i a g ha hv hi e1 w3
      rw [drop_get ha, List.flatten_cons, List.length_append] at hv
      have hga := map_get flds_lst ls i a ha
      have w1 : IntKind.i64.wrap ((g : Int) + (a.length : Int)) = ((g + a.length : Nat) : Int) := by rw [wrap_i64] <;> omega
      have d1 : decide (((g + a.length : Nat) : Int) < 0) = false := by rw [decide_eq_false_iff_not]; omega
      simp only [e1, w3, aw20, List.take_succ_cons, List.take_zero, List.drop_zero, List.drop_succ_cons, List.length_map, ↓awD, awP, Nat.reduceLeDiff, Nat.reduceEqDiff, Nat.reduceAdd, Nat.zero_add, Int.cast_ofNat_Int, Int.reduceLT, Int.reduceLE, Int.reduceEq]
      ((first | refine Need.mk (by first | (first | omega | (simp only [decide_eq_true_eq, decide_eq_false_iff_not, Bool.and_eq_true, Bool.not_eq_true', Bool.not_eq_false', List.length_map] at *; omega) | (simp; omega)) | (constructor <;> (first | omega | (simp only [decide_eq_true_eq, decide_eq_false_iff_not, Bool.and_eq_true, Bool.not_eq_true', Bool.not_eq_false', List.length_map] at *; omega) | (simp; omega)))) (Elem.recs hga (by first | (rw [flds_lst]; exact ⟨rfl, rfl⟩) | exact ⟨rfl, rfl⟩) ?_) | refine Elem.recs hga (by first | (rw [flds_lst]; exact ⟨rfl, rfl⟩) | exact ⟨rfl, rfl⟩) ?_); simp only [flds_lst, w1, d1, w3, aw21, aw20, List.take_succ_cons, List.take_zero, List.drop_zero, List.drop_succ_cons, List.length_map, ↓awD, awP, Nat.reduceLeDiff, Nat.reduceEqDiff, Nat.reduceAdd, Nat.zero_add, Int.cast_ofNat_Int, Int.reduceLT, Int.reduceLE, Int.reduceEq])
      have hv2 : g + a.length + (ls.drop (i + 1)).flatten.length = ls.flatten.length := by omega
      exact ⟨(i + 1, (g + a.length)), ⟨hi, hv2⟩, by simp only; omega, weak_of (rfl) (by simp [look])⟩
    · rintro g hv e1
      rw [drop_len] at hv
      simp only [List.flatten_nil, List.length_nil, Nat.add_zero] at hv
      subst hv
      simp only [e1, aw20, List.take_succ_cons, List.take_zero, List.drop_zero, List.drop_succ_cons, List.length_map, ↓awD, awP, Nat.reduceLeDiff, Nat.reduceEqDiff, Nat.reduceAdd, Nat.zero_add, Int.cast_ofNat_Int, Int.reduceLT, Int.reduceLE, Int.reduceEq]
      exact hx _ ⟨rfl, by simp [look], by simp [look]⟩
  rintro ⟨tm, hp⟩ ⟨h0, k0, k3⟩
  simp only at h0 k0 k3
  subst h0
  simp only [k0, k3, aw20, List.take_succ_cons, List.take_zero, List.drop_zero, List.drop_succ_cons, List.length_map, ↓awD, awP, Nat.reduceLeDiff, Nat.reduceEqDiff, Nat.reduceAdd, Nat.zero_add, Int.cast_ofNat_Int, Int.reduceLT, Int.reduceLE, Int.reduceEq]
  refine EvF.use (flds_grow _ hp (by omega) (by omega)) ?_
  rintro r h' (⟨h1, rfl, rfl⟩ | ⟨h1, cap, h2, rfl, rfl⟩)
  · have hz : ls.flatten = [] := List.length_eq_zero_iff.1 (by omega)
    simp only [k0, aw20, List.take_succ_cons, List.take_zero, List.drop_zero, List.drop_succ_cons, List.length_map, ↓awD, awP, Nat.reduceLeDiff, Nat.reduceEqDiff, Nat.reduceAdd, Nat.zero_add, Int.cast_ofNat_Int, Int.reduceLT, Int.reduceLE, Int.reduceEq]
    refine LoopF.list ls (by omega) (γ := Unit) (fun i _ => ⟨[(6, .sl .full []), (25, .sl .full (ls.map flds_lst)), (26, i64 ls.length), (27, i64 i)], h'⟩) (fun i _ => True) () trivial (weak_of rfl (by simp [look])) ?_ ?_
    · rintro i a _ ha _ hi e1 w3
      have hga := map_get flds_lst ls i a ha
      have hna : a = [] := List.flatten_eq_nil_iff.1 hz a (List.mem_of_getElem? ha)
      subst hna
      simp only [e1, w3, aw20, List.take_succ_cons, List.take_zero, List.drop_zero, List.drop_succ_cons, List.length_map, ↓awD, awP, Nat.reduceLeDiff, Nat.reduceEqDiff, Nat.reduceAdd, Nat.zero_add, Int.cast_ofNat_Int, Int.reduceLT, Int.reduceLE, Int.reduceEq]
      ((first | refine Need.mk (by first | (first | omega | (simp only [decide_eq_true_eq, decide_eq_false_iff_not, Bool.and_eq_true, Bool.not_eq_true', Bool.not_eq_false', List.length_map] at *; omega) | (simp; omega)) | (constructor <;> (first | omega | (simp only [decide_eq_true_eq, decide_eq_false_iff_not, Bool.and_eq_true, Bool.not_eq_true', Bool.not_eq_false', List.length_map] at *; omega) | (simp; omega)))) (Elem.recs hga (by first | (rw [flds_lst]; exact ⟨rfl, rfl⟩) | exact ⟨rfl, rfl⟩) ?_) | refine Elem.recs hga (by first | (rw [flds_lst]; exact ⟨rfl, rfl⟩) | exact ⟨rfl, rfl⟩) ?_); simp only [flds_lst, w3, aw21, aw20, List.take_succ_cons, List.take_zero, List.drop_zero, List.drop_succ_cons, List.length_map, ↓awD, awP, Nat.reduceLeDiff, Nat.reduceEqDiff, Nat.reduceAdd, Nat.zero_add, Int.cast_ofNat_Int, Int.reduceLT, Int.reduceLE, Int.reduceEq])
      simp only [awApp, w3, aw20, List.take_succ_cons, List.take_zero, List.drop_zero, List.drop_succ_cons, List.length_map, ↓awD, awP, Nat.reduceLeDiff, Nat.reduceEqDiff, Nat.reduceAdd, Nat.zero_add, Int.cast_ofNat_Int, Int.reduceLT, Int.reduceLE, Int.reduceEq]
      refine Need.mk (by (repeat' apply And.intro) <;> first | decide | rfl | exact (fun e he => by cases he) | (simp; done)) (AppF.mk (fun _ => ⟨rfl, ?_⟩) (fun hn => absurd rfl hn))
      simp only [w3, aw20, List.take_succ_cons, List.take_zero, List.drop_zero, List.drop_succ_cons, List.length_map, ↓awD, awP, Nat.reduceLeDiff, Nat.reduceEqDiff, Nat.reduceAdd, Nat.zero_add, Int.cast_ofNat_Int, Int.reduceLT, Int.reduceLE, Int.reduceEq]
      exact ⟨(i + 1, ()), hi, by simp only; omega, weak_of (rfl) (by simp [look])⟩
    · rintro _ _ e1
      simp only [e1, aw20, List.take_succ_cons, List.take_zero, List.drop_zero, List.drop_succ_cons, List.length_map, ↓awD, awP, Nat.reduceLeDiff, Nat.reduceEqDiff, Nat.reduceAdd, Nat.zero_add, Int.cast_ofNat_Int, Int.reduceLT, Int.reduceLE, Int.reduceEq]
      exact Fin.same0 hcl rfl (.inl ⟨.full, by rw [hz]; rfl, rfl⟩)
  · simp only [k0, aw20, List.take_succ_cons, List.take_zero, List.drop_zero, List.drop_succ_cons, List.length_map, ↓awD, awP, Nat.reduceLeDiff, Nat.reduceEqDiff, Nat.reduceAdd, Nat.zero_add, Int.cast_ofNat_Int, Int.reduceLT, Int.reduceLE, Int.reduceEq]
    refine LoopF.list ls (by omega) (γ := Unit) (fun i _ => ⟨[(6, .vw hp.length 0 (ls.take i).flatten.length cap), (25, .sl .full (ls.map flds_lst)), (26, i64 ls.length), (27, i64 i)], hp ++ [AObj.cells (dynL [.lit (.string ⟨#[]⟩), .lit (.int .i64 0), .lit (.bool false), .sl .full []] ((ls.take i).flatten.map fldv) cap)]⟩)
      (fun i _ => True) () trivial (weak_of rfl (by simp [look])) ?_ ?_
    · rintro i a _ ha _ hi e1 w3
      have hga := map_get flds_lst ls i a ha
      have htk : (ls.take (i + 1)).flatten = (ls.take i).flatten ++ a := by
        rw [List.take_succ_eq_append_getElem hi, List.flatten_append, (List.getElem?_eq_some_iff.1 ha).2]; simp
      have hfl : (ls.take (i + 1)).flatten.length ≤ ls.flatten.length := by
        conv => rhs; rw [← List.take_append_drop (i + 1) ls, List.flatten_append, List.length_append]
        omega
      rw [htk, List.length_append] at hfl
      have hdl := dynL_len (z := [.lit (.string ⟨#[]⟩), .lit (.int .i64 0), .lit (.bool false), .sl .full []]) (cap := cap) (k := 4) (flds_fit (ls.take i).flatten) rfl (by rw [List.length_map]; omega)
      simp only [e1, w3, aw20, List.take_succ_cons, List.take_zero, List.drop_zero, List.drop_succ_cons, List.length_map, ↓awD, awP, Nat.reduceLeDiff, Nat.reduceEqDiff, Nat.reduceAdd, Nat.zero_add, Int.cast_ofNat_Int, Int.reduceLT, Int.reduceLE, Int.reduceEq]
      ((first | refine Need.mk (by first | (first | omega | (simp only [decide_eq_true_eq, decide_eq_false_iff_not, Bool.and_eq_true, Bool.not_eq_true', Bool.not_eq_false', List.length_map] at *; omega) | (simp; omega)) | (constructor <;> (first | omega | (simp only [decide_eq_true_eq, decide_eq_false_iff_not, Bool.and_eq_true, Bool.not_eq_true', Bool.not_eq_false', List.length_map] at *; omega) | (simp; omega)))) (Elem.recs hga (by first | (rw [flds_lst]; exact ⟨rfl, rfl⟩) | exact ⟨rfl, rfl⟩) ?_) | refine Elem.recs hga (by first | (rw [flds_lst]; exact ⟨rfl, rfl⟩) | exact ⟨rfl, rfl⟩) ?_); simp only [flds_lst, w3, aw21, aw20, List.take_succ_cons, List.take_zero, List.drop_zero, List.drop_succ_cons, List.length_map, ↓awD, awP, Nat.reduceLeDiff, Nat.reduceEqDiff, Nat.reduceAdd, Nat.zero_add, Int.cast_ofNat_Int, Int.reduceLT, Int.reduceLE, Int.reduceEq])
      simp only [awApp, w3, aw20, List.take_succ_cons, List.take_zero, List.drop_zero, List.drop_succ_cons, List.length_map, ↓awD, awP, Nat.reduceLeDiff, Nat.reduceEqDiff, Nat.reduceAdd, Nat.zero_add, Int.cast_ofNat_Int, Int.reduceLT, Int.reduceLE, Int.reduceEq]
      refine Need.mk (by (repeat' apply And.intro) <;> first | decide | rfl | exact flds_fit _ | exact flds_one _ | omega | (rw [hdl]; omega) | (simp only [List.length_map]; omega)) (AppF.mk (fun hr => Need.mk (by rw [hdl]; simp only [List.length_map]; omega) ?_) (fun hn => absurd (by simp only [List.length_map]; omega) hn))
      have hin := dyn_in (z := [.lit (.string ⟨#[]⟩), .lit (.int .i64 0), .lit (.bool false), .sl .full []]) (cap := cap) (flds_fit (ls.take i).flatten) (flds_fit a) rfl (flds_strip a) (by rw [List.length_map, List.length_map]; omega)
      rw [List.length_map, ← List.map_append, ← htk, Nat.zero_add] at hin
      simp only [hin, w3, aw20, List.take_succ_cons, List.take_zero, List.drop_zero, List.drop_succ_cons, List.length_map, ↓awD, awP, Nat.reduceLeDiff, Nat.reduceEqDiff, Nat.reduceAdd, Nat.zero_add, Int.cast_ofNat_Int, Int.reduceLT, Int.reduceLE, Int.reduceEq]
      refine ⟨(i + 1, ()), hi, by simp only; omega, weak_of rfl ?_⟩
      simp [look, htk]
    · rintro _ _ e1
      simp only [e1, aw20, List.take_succ_cons, List.take_zero, List.drop_zero, List.drop_succ_cons, List.length_map, ↓awD, awP, Nat.reduceLeDiff, Nat.reduceEqDiff, Nat.reduceAdd, Nat.zero_add, Int.cast_ofNat_Int, Int.reduceLT, Int.reduceLE, Int.reduceEq]
      refine Fin.here (by simp) (hcl.app (unders_dyn rfl ?_)) (by simp [AV.under]) (.inr ⟨[], cap, ?_, ?_, ?_, hcl⟩)
      · refine unders_of fun x hx => ?_
        simp only [flatC, List.mem_flatMap, List.mem_map] at hx
        obtain ⟨_, ⟨c, _, rfl⟩, hx⟩ := hx
        exact flds_und c x hx
      · simp [take_len]
      · simp [take_len]
      · try simp only [List.length_map]
        omega
theorem strs_fit (l : List ByteArray) : Fit 1 (l.map str) := by
  intro e he; obtain ⟨c, _, rfl⟩ := List.mem_map.1 he; exact ⟨rfl, rfl⟩
theorem strs_one (l : List ByteArray) : allOne (l.map str) := by
  intro e he; obtain ⟨c, _, rfl⟩ := List.mem_map.1 he; rfl
theorem strs_strip : ∀ (l : List ByteArray), (flatC (l.map str)).map AV.strip = flatC (l.map str)
  | [] => rfl
  | a :: l => by
    have := strs_strip l
    simp only [flatC] at this ⊢
    simp only [List.map_cons, List.flatMap_cons, List.map_append, this]
    rfl
theorem strs_und {n : Nat} (c : ByteArray) : ∀ x, x ∈ (str c).cells → AV.under n x = true := by
  intro x hx
  have : unders n (str c).cells = true := rfl
  obtain ⟨i, hi⟩ := List.getElem?_of_mem hx
  exact unders_get this hi
theorem strs_grow (n : Int) (h : List AObj) (h0 : 0 ≤ n) (hn : n ≤ 2 ^ 40) : Ev E0 92 [.sl .full [], i64 n] h (fun r h' => (n = 0 ∧ r = .ret (.sl .full []) ∧ h' = h) ∨
    (0 < n ∧ ∃ cap : Nat, n ≤ cap ∧ r = .ret (.vw h.length 0 0 cap) ∧ h' = h ++ [AObj.cells (dynL [.lit (.string ⟨#[]⟩)] [] cap)])) := by
  refine ev_of (fn := Tryz.f92) (hs := []) Tryz.func92 c92 (by simp) fun hcl => ?_
  have d0 : decide (n < 0) = false := by rw [decide_eq_false_iff_not]; omega
  have w0 : IntKind.i64.wrap ((0 : Int) - 0) = 0 := rfl
  have w1 : IntKind.i64.wrap (n - 0) = n := by rw [wrap_i64] <;> omega
  simp only [ac92, d0, w0, w1, List.length_nil, Int.cast_ofNat_Int, aw20, List.take_succ_cons, List.take_zero, List.drop_zero, List.drop_succ_cons, List.length_map, ↓awD, awP, Nat.reduceLeDiff, Nat.reduceEqDiff, Nat.reduceAdd, Nat.zero_add, Int.cast_ofNat_Int, Int.reduceLT, Int.reduceLE, Int.reduceEq]
  refine BrF.mk (fun hb => ?_) (fun hb => ?_) <;> (try rw [hb]) <;> simp only [aw20, List.take_succ_cons, List.take_zero, List.drop_zero, List.drop_succ_cons, List.length_map, ↓awD, awP, Nat.reduceLeDiff, Nat.reduceEqDiff, Nat.reduceAdd, Nat.zero_add, Int.cast_ofNat_Int, Int.reduceLT, Int.reduceLE, Int.reduceEq]
  · rw [decide_eq_true_eq] at hb
    refine Need.mk (by simp) ?_
    simp only [List.take_nil, List.drop_nil, aw20, List.take_succ_cons, List.take_zero, List.drop_zero, List.drop_succ_cons, List.length_map, ↓awD, awP, Nat.reduceLeDiff, Nat.reduceEqDiff, Nat.reduceAdd, Nat.zero_add, Int.cast_ofNat_Int, Int.reduceLT, Int.reduceLE, Int.reduceEq]
    refine Need.mk (by (repeat' apply And.intro) <;> first | decide | rfl | omega) (ZerF.mk (fun h => absurd h (by omega)) (fun _ cap' hc => ?_))
    simp only [dyn_zero _ _ _ hc, offAt0, aw20, List.take_succ_cons, List.take_zero, List.drop_zero, List.drop_succ_cons, List.length_map, ↓awD, awP, Nat.reduceLeDiff, Nat.reduceEqDiff, Nat.reduceAdd, Nat.zero_add, Int.cast_ofNat_Int, Int.reduceLT, Int.reduceLE, Int.reduceEq]
    refine Need.mk (by omega) ?_
    simp only [offAt0, Int.toNat_zero, Nat.sub_zero, aw20, List.take_succ_cons, List.take_zero, List.drop_zero, List.drop_succ_cons, List.length_map, ↓awD, awP, Nat.reduceLeDiff, Nat.reduceEqDiff, Nat.reduceAdd, Nat.zero_add, Int.cast_ofNat_Int, Int.reduceLT, Int.reduceLE, Int.reduceEq]
    exact Fin.here (by simp) (hcl.app (unders_dyn rfl rfl)) (by simp [AV.under]) (.inr ⟨hb, cap', by omega, rfl, rfl⟩)
  · rw [decide_eq_false_iff_not] at hb
    exact Fin.same0 hcl rfl (.inl ⟨by omega, rfl, rfl⟩)
def strs_lst (l : List ByteArray) : AV := .sl .unk (l.map str)
theorem strs_cat (ls : List (List ByteArray)) (h : List AObj) (hl : ls.length ≤ 2 ^ 30) (hs : ls.flatten.length ≤ 2 ^ 40) : EvR E0 79 [.sl .full (ls.map strs_lst)] h (.sl .unk (ls.flatten.map str)) := by
  refine Ev.frozen [.lit (.string ⟨#[]⟩)] 1 (strs_fit _) (strs_one _) ?_ rfl ?_
  · refine unders_of fun x hx => ?_
    simp only [flatC, List.mem_flatMap, List.mem_map] at hx
    obtain ⟨_, ⟨c, _, rfl⟩, hx⟩ := hx
    exact strs_und c x hx
  refine ev_of (fn := Tryz.f79) (hs := [(13, 2)]) Tryz.func79 c79 (by simp) fun hcl => ?_
  simp only [ac79, aw20, List.take_succ_cons, List.take_zero, List.drop_zero, List.drop_succ_cons, List.length_map, ↓awD, awP, Nat.reduceLeDiff, Nat.reduceEqDiff, Nat.reduceAdd, Nat.zero_add, Int.cast_ofNat_Int, Int.reduceLT, Int.reduceLE, Int.reduceEq]
  refine LoopF.cut 0 (fun σ => σ.heap = h ∧ look σ.tmps 0 = .sl .full (ls.map strs_lst) ∧ look σ.tmps 3 = i64 ls.flatten.length) ?_ ?_
  · intro Q' hx _ _
    refine LoopF.list ls (by omega) (γ := Nat) (fun i g => ⟨[(0, .sl .full (ls.map strs_lst)), (3, i64 g), (9, .sl .full (ls.map strs_lst)), (10, i64 ls.length), (11, i64 i)], h⟩)
      (fun i g => g + (ls.drop i).flatten.length = ls.flatten.length) 0 (by simp) (weak_of rfl (by simp [look])) ?_ ?_
    · rintro i a g ha hv hi e1 w3
      rw [drop_get ha, List.flatten_cons, List.length_append] at hv
      have hga := map_get strs_lst ls i a ha
      have w1 : IntKind.i64.wrap ((g : Int) + (a.length : Int)) = ((g + a.length : Nat) : Int) := by rw [wrap_i64] <;> omega
      have d1 : decide (((g + a.length : Nat) : Int) < 0) = false := by rw [decide_eq_false_iff_not]; omega
      simp only [e1, w3, aw20, List.take_succ_cons, List.take_zero, List.drop_zero, List.drop_succ_cons, List.length_map, ↓awD, awP, Nat.reduceLeDiff, Nat.reduceEqDiff, Nat.reduceAdd, Nat.zero_add, Int.cast_ofNat_Int, Int.reduceLT, Int.reduceLE, Int.reduceEq]
      ((first | refine Need.mk (by first | (first | omega | (simp only [decide_eq_true_eq, decide_eq_false_iff_not, Bool.and_eq_true, Bool.not_eq_true', Bool.not_eq_false', List.length_map] at *; omega) | (simp; omega)) | (constructor <;> (first | omega | (simp only [decide_eq_true_eq, decide_eq_false_iff_not, Bool.and_eq_true, Bool.not_eq_true', Bool.not_eq_false', List.length_map] at *; omega) | (simp; omega)))) (Elem.recs hga (by first | (rw [strs_lst]; exact ⟨rfl, rfl⟩) | exact ⟨rfl, rfl⟩) ?_) | refine Elem.recs hga (by first | (rw [strs_lst]; exact ⟨rfl, rfl⟩) | exact ⟨rfl, rfl⟩) ?_); simp only [strs_lst, w1, d1, w3, aw21, aw20, List.take_succ_cons, List.take_zero, List.drop_zero, List.drop_succ_cons, List.length_map, ↓awD, awP, Nat.reduceLeDiff, Nat.reduceEqDiff, Nat.reduceAdd, Nat.zero_add, Int.cast_ofNat_Int, Int.reduceLT, Int.reduceLE, Int.reduceEq])
      have hv2 : g + a.length + (ls.drop (i + 1)).flatten.length = ls.flatten.length := by omega
      exact ⟨(i + 1, (g + a.length)), ⟨hi, hv2⟩, by simp only; omega, weak_of (rfl) (by simp [look])⟩
    · rintro g hv e1
      rw [drop_len] at hv
      simp only [List.flatten_nil, List.length_nil, Nat.add_zero] at hv
      subst hv
      simp only [e1, aw20, List.take_succ_cons, List.take_zero, List.drop_zero, List.drop_succ_cons, List.length_map, ↓awD, awP, Nat.reduceLeDiff, Nat.reduceEqDiff, Nat.reduceAdd, Nat.zero_add, Int.cast_ofNat_Int, Int.reduceLT, Int.reduceLE, Int.reduceEq]
      exact hx _ ⟨rfl, by simp [look], by simp [look]⟩
  rintro ⟨tm, hp⟩ ⟨h0, k0, k3⟩
  simp only at h0 k0 k3
  subst h0
  simp only [k0, k3, aw20, List.take_succ_cons, List.take_zero, List.drop_zero, List.drop_succ_cons, List.length_map, ↓awD, awP, Nat.reduceLeDiff, Nat.reduceEqDiff, Nat.reduceAdd, Nat.zero_add, Int.cast_ofNat_Int, Int.reduceLT, Int.reduceLE, Int.reduceEq]
  refine EvF.use (strs_grow _ hp (by omega) (by omega)) ?_
  rintro r h' (⟨h1, rfl, rfl⟩ | ⟨h1, cap, h2, rfl, rfl⟩)
  · have hz : ls.flatten = [] := List.length_eq_zero_iff.1 (by omega)
    simp only [k0, aw20, List.take_succ_cons, List.take_zero, List.drop_zero, List.drop_succ_cons, List.length_map, ↓awD, awP, Nat.reduceLeDiff, Nat.reduceEqDiff, Nat.reduceAdd, Nat.zero_add, Int.cast_ofNat_Int, Int.reduceLT, Int.reduceLE, Int.reduceEq]
    refine LoopF.list ls (by omega) (γ := Unit) (fun i _ => ⟨[(6, .sl .full []), (25, .sl .full (ls.map strs_lst)), (26, i64 ls.length), (27, i64 i)], h'⟩) (fun i _ => True) () trivial (weak_of rfl (by simp [look])) ?_ ?_
    · rintro i a _ ha _ hi e1 w3
      have hga := map_get strs_lst ls i a ha
      have hna : a = [] := List.flatten_eq_nil_iff.1 hz a (List.mem_of_getElem? ha)
      subst hna
      simp only [e1, w3, aw20, List.take_succ_cons, List.take_zero, List.drop_zero, List.drop_succ_cons, List.length_map, ↓awD, awP, Nat.reduceLeDiff, Nat.reduceEqDiff, Nat.reduceAdd, Nat.zero_add, Int.cast_ofNat_Int, Int.reduceLT, Int.reduceLE, Int.reduceEq]
      ((first | refine Need.mk (by first | (first | omega | (simp only [decide_eq_true_eq, decide_eq_false_iff_not, Bool.and_eq_true, Bool.not_eq_true', Bool.not_eq_false', List.length_map] at *; omega) | (simp; omega)) | (constructor <;> (first | omega | (simp only [decide_eq_true_eq, decide_eq_false_iff_not, Bool.and_eq_true, Bool.not_eq_true', Bool.not_eq_false', List.length_map] at *; omega) | (simp; omega)))) (Elem.recs hga (by first | (rw [strs_lst]; exact ⟨rfl, rfl⟩) | exact ⟨rfl, rfl⟩) ?_) | refine Elem.recs hga (by first | (rw [strs_lst]; exact ⟨rfl, rfl⟩) | exact ⟨rfl, rfl⟩) ?_); simp only [strs_lst, w3, aw21, aw20, List.take_succ_cons, List.take_zero, List.drop_zero, List.drop_succ_cons, List.length_map, ↓awD, awP, Nat.reduceLeDiff, Nat.reduceEqDiff, Nat.reduceAdd, Nat.zero_add, Int.cast_ofNat_Int, Int.reduceLT, Int.reduceLE, Int.reduceEq])
      simp only [awApp, w3, aw20, List.take_succ_cons, List.take_zero, List.drop_zero, List.drop_succ_cons, List.length_map, ↓awD, awP, Nat.reduceLeDiff, Nat.reduceEqDiff, Nat.reduceAdd, Nat.zero_add, Int.cast_ofNat_Int, Int.reduceLT, Int.reduceLE, Int.reduceEq]
      refine Need.mk (by (repeat' apply And.intro) <;> first | decide | rfl | exact (fun e he => by cases he) | (simp; done)) (AppF.mk (fun _ => ⟨rfl, ?_⟩) (fun hn => absurd rfl hn))
      simp only [w3, aw20, List.take_succ_cons, List.take_zero, List.drop_zero, List.drop_succ_cons, List.length_map, ↓awD, awP, Nat.reduceLeDiff, Nat.reduceEqDiff, Nat.reduceAdd, Nat.zero_add, Int.cast_ofNat_Int, Int.reduceLT, Int.reduceLE, Int.reduceEq]
      exact ⟨(i + 1, ()), hi, by simp only; omega, weak_of (rfl) (by simp [look])⟩
    · rintro _ _ e1
      simp only [e1, aw20, List.take_succ_cons, List.take_zero, List.drop_zero, List.drop_succ_cons, List.length_map, ↓awD, awP, Nat.reduceLeDiff, Nat.reduceEqDiff, Nat.reduceAdd, Nat.zero_add, Int.cast_ofNat_Int, Int.reduceLT, Int.reduceLE, Int.reduceEq]
      exact Fin.same0 hcl rfl (.inl ⟨.full, by rw [hz]; rfl, rfl⟩)
  · simp only [k0, aw20, List.take_succ_cons, List.take_zero, List.drop_zero, List.drop_succ_cons, List.length_map, ↓awD, awP, Nat.reduceLeDiff, Nat.reduceEqDiff, Nat.reduceAdd, Nat.zero_add, Int.cast_ofNat_Int, Int.reduceLT, Int.reduceLE, Int.reduceEq]
    refine LoopF.list ls (by omega) (γ := Unit) (fun i _ => ⟨[(6, .vw hp.length 0 (ls.take i).flatten.length cap), (25, .sl .full (ls.map strs_lst)), (26, i64 ls.length), (27, i64 i)], hp ++ [AObj.cells (dynL [.lit (.string ⟨#[]⟩)] ((ls.take i).flatten.map str) cap)]⟩)
      (fun i _ => True) () trivial (weak_of rfl (by simp [look])) ?_ ?_
    · rintro i a _ ha _ hi e1 w3
      have hga := map_get strs_lst ls i a ha
      have htk : (ls.take (i + 1)).flatten = (ls.take i).flatten ++ a := by
        rw [List.take_succ_eq_append_getElem hi, List.flatten_append, (List.getElem?_eq_some_iff.1 ha).2]; simp
      have hfl : (ls.take (i + 1)).flatten.length ≤ ls.flatten.length := by
        conv => rhs; rw [← List.take_append_drop (i + 1) ls, List.flatten_append, List.length_append]
        omega
      rw [htk, List.length_append] at hfl
      have hdl := dynL_len (z := [.lit (.string ⟨#[]⟩)]) (cap := cap) (k := 1) (strs_fit (ls.take i).flatten) rfl (by rw [List.length_map]; omega)
      simp only [e1, w3, aw20, List.take_succ_cons, List.take_zero, List.drop_zero, List.drop_succ_cons, List.length_map, ↓awD, awP, Nat.reduceLeDiff, Nat.reduceEqDiff, Nat.reduceAdd, Nat.zero_add, Int.cast_ofNat_Int, Int.reduceLT, Int.reduceLE, Int.reduceEq]
      ((first | refine Need.mk (by first | (first | omega | (simp only [decide_eq_true_eq, decide_eq_false_iff_not, Bool.and_eq_true, Bool.not_eq_true', Bool.not_eq_false', List.length_map] at *; omega) | (simp; omega)) | (constructor <;> (first | omega | (simp only [decide_eq_true_eq, decide_eq_false_iff_not, Bool.and_eq_true, Bool.not_eq_true', Bool.not_eq_false', List.length_map] at *; omega) | (simp; omega)))) (Elem.recs hga (by first | (rw [strs_lst]; exact ⟨rfl, rfl⟩) | exact ⟨rfl, rfl⟩) ?_) | refine Elem.recs hga (by first | (rw [strs_lst]; exact ⟨rfl, rfl⟩) | exact ⟨rfl, rfl⟩) ?_); simp only [strs_lst, w3, aw21, aw20, List.take_succ_cons, List.take_zero, List.drop_zero, List.drop_succ_cons, List.length_map, ↓awD, awP, Nat.reduceLeDiff, Nat.reduceEqDiff, Nat.reduceAdd, Nat.zero_add, Int.cast_ofNat_Int, Int.reduceLT, Int.reduceLE, Int.reduceEq])
      simp only [awApp, w3, aw20, List.take_succ_cons, List.take_zero, List.drop_zero, List.drop_succ_cons, List.length_map, ↓awD, awP, Nat.reduceLeDiff, Nat.reduceEqDiff, Nat.reduceAdd, Nat.zero_add, Int.cast_ofNat_Int, Int.reduceLT, Int.reduceLE, Int.reduceEq]
      refine Need.mk (by (repeat' apply And.intro) <;> first | decide | rfl | exact strs_fit _ | exact strs_one _ | omega | (rw [hdl]; omega) | (simp only [List.length_map]; omega)) (AppF.mk (fun hr => Need.mk (by rw [hdl]; simp only [List.length_map]; omega) ?_) (fun hn => absurd (by simp only [List.length_map]; omega) hn))
      have hin := dyn_in (z := [.lit (.string ⟨#[]⟩)]) (cap := cap) (strs_fit (ls.take i).flatten) (strs_fit a) rfl (strs_strip a) (by rw [List.length_map, List.length_map]; omega)
      rw [List.length_map, ← List.map_append, ← htk, Nat.zero_add] at hin
      simp only [hin, w3, aw20, List.take_succ_cons, List.take_zero, List.drop_zero, List.drop_succ_cons, List.length_map, ↓awD, awP, Nat.reduceLeDiff, Nat.reduceEqDiff, Nat.reduceAdd, Nat.zero_add, Int.cast_ofNat_Int, Int.reduceLT, Int.reduceLE, Int.reduceEq]
      refine ⟨(i + 1, ()), hi, by simp only; omega, weak_of rfl ?_⟩
      simp [look, htk]
    · rintro _ _ e1
      simp only [e1, aw20, List.take_succ_cons, List.take_zero, List.drop_zero, List.drop_succ_cons, List.length_map, ↓awD, awP, Nat.reduceLeDiff, Nat.reduceEqDiff, Nat.reduceAdd, Nat.zero_add, Int.cast_ofNat_Int, Int.reduceLT, Int.reduceLE, Int.reduceEq]
      refine Fin.here (by simp) (hcl.app (unders_dyn rfl ?_)) (by simp [AV.under]) (.inr ⟨[], cap, ?_, ?_, ?_, hcl⟩)
      · refine unders_of fun x hx => ?_
        simp only [flatC, List.mem_flatMap, List.mem_map] at hx
        obtain ⟨_, ⟨c, _, rfl⟩, hx⟩ := hx
        exact strs_und c x hx
      · simp [take_len]
      · simp [take_len]
      · try simp only [List.length_map]
        omega
end Go.Abs.Fr
