/- Values of tables' types: member.Canon. -/
import Derived.Test.YtloimemacnjpgaaGreatS15SvJ
import Derived.Test.YtloimemacnjpgaaGreatAbsZm
import Derived.Test.YtloimemacnjpgaaGreatS15FrC
import Derived.Test.YtloimemacnjpgaaGreatAbsK2
import Derived.Test.YtloimemacnjpgaaGreatAbsSo
set_option linter.all false
namespace Go.Abs.Fr
open Go Go.Abs Go.Proofs
set_option linter.unusedSimpArgs false
set_option maxRecDepth 100000

def ac11 : ACode := (.seq (.region [oq 3 (.box (tq 1)), oq 4 (.alloc [zi, zi, zs, zn, zn]), oq 5 (.move (ci 0))]) (.seq (.seq (.region [oq 7 (qm 0), oq 8 (qs 5 3), oq 9 (.call (.func 15) [((tq 7), false), ((tq 8), false)]), oq 6 (qm 9)]) (.seq (.region [oq 10 (qm 6), oq 11 (.bin .neq (tq 10) (ci 0))]) (.cond (tq 11) (.seq (.region [oq 12 (.build [zi, zi, zs, zn, zn] []), oq 13 (qm 6), oz (.store 5 (tq 4) (tq 12)), oq 5 (qm 13)]) .ret) .skip))) (.seq (.region [oq 14 (qm 0), oq 15 (.build [zn, zi, zi] [(0, (1, (tq 14))), (1, (1, (ci 0))), (2, (1, (ci 40)))]), oq 16 (qs 5 3), oq 17 (.call (.func 19) [((tq 15), false), ((tq 16), false)]), oz (.store 5 (tq 4) (tq 17)), oq 5 (.move (ci 0))]) .ret)))
theorem c11 : cfn E0.P [] Tryz.f11 = some (ac11, [(.cell 4 (some 5)), (.tmp 5)], 18) := by kernel_rfl

def val0 : Val := .mk 0 0 ⟨#[]⟩ [] [] (by unfold InR; decide)
theorem check0 {d : List Dsc} {v : Val} (h : checkT d v = 0) : rightT d = true ∧ deepV 40 v = false ∧ hasV d 40 0 v = true := by
  unfold checkT at h
  cases h1 : rightT d <;> rw [h1] at h <;> simp only [Bool.not_false, Bool.not_true, cond_true, cond_false] at h
  · omega
  · cases h2 : deepV 40 v <;> rw [h2] at h <;> simp only [cond_true, cond_false] at h
    · cases h3 : hasV d 40 0 v <;> rw [h3] at h <;> simp only [Bool.not_false, Bool.not_true, cond_true, cond_false] at h
      · omega
      · exact ⟨rfl, rfl, rfl⟩
    · omega
noncomputable def canonT (d : List Dsc) (v : Val) : Val := bif decide (checkT d v = 0) then canV d 40 0 v else val0
theorem canon_ev (d : List Dsc) (hd : ∀ r, r ∈ d → BD (2 ^ 30) r) (hl : d.length < 2 ^ 30) (v : Val) (hv : mxV v ≤ 2 ^ 48) (hz : szV v ≤ 2 ^ 40) (h : List AObj) : EvR E0 11 [dscl d, valv v] h (.tup [valv (canonT d v), i64 (checkT d v)]) := by
  have hc := fun h => check_ev d hd hl v hv h
  unfold canonT
  simp only [valv_eq] at hc
  cases hcc : decide (checkT d v = 0)
  · show EvR E0 11 [dscl d, valv v] h (.tup (lows [.agg [i64 0, i64 0, str ⟨#[]⟩, .sl .full [], .sl .full []], i64 (checkT d v)]))
    refine EvR.lowT ?_
    refine ev_of (fn := Tryz.f11) (hs := []) Tryz.func11 c11 (by simp) fun hcl => ?_
    simp only [ac11, valv_eq, awH, ↓awD, awP, Nat.reduceLeDiff, Nat.reduceEqDiff, Nat.reduceAdd, Int.reduceLT, Int.reduceLE, Int.reduceEq]
    repeat' (first | ((first | refine EvF.ret (hc _) ?_ | refine EvRF.ret (hc _) ?_); simp only [hcc, aw21, awH, ↓awD, awP, Nat.reduceLeDiff, Nat.reduceEqDiff, Nat.reduceAdd, Int.reduceLT, Int.reduceLE, Int.reduceEq]))
    exact Fin.end hcl (by first | rfl | (simp only [AV.under, unders, und_val, und_vals, und_strs, und_ints, und_rgs, und_flds, und_dsc, und_dscs, Bool.and_self, Bool.and_true, Bool.true_and])) (by first | rfl | exact (List.append_nil _).symm | (simp only [List.append_assoc]; rfl)) ⟨rfl, rfl⟩
  · have hc0 := of_decide_eq_true hcc
    obtain ⟨h1, h2, h3⟩ := check0 hc0
    obtain ⟨hok, hpos⟩ := tab_ok h1
    have hcn := fun h => canon_all d hd hok 40 (Nat.le_refl _) 0 v ⟨Int.le_refl _, by omega⟩ hv hz h3 h
    simp only [valv_eq] at hcn
    refine ev_of (fn := Tryz.f11) (hs := []) Tryz.func11 c11 (by simp) fun hcl => ?_
    simp only [cond_true, ac11, valv_eq, awH, ↓awD, awP, Nat.reduceLeDiff, Nat.reduceEqDiff, Nat.reduceAdd, Int.reduceLT, Int.reduceLE, Int.reduceEq]
    repeat' (first | ((first | refine EvF.ret (hc _) ?_ | refine EvRF.ret (hc _) ?_); simp only [hcc, aw21, awH, ↓awD, awP, Nat.reduceLeDiff, Nat.reduceEqDiff, Nat.reduceAdd, Int.reduceLT, Int.reduceLE, Int.reduceEq]) | ((first | refine EvF.ret (hcn _) ?_ | refine EvRF.ret (hcn _) ?_); simp only [hcc, aw21, awH, ↓awD, awP, Nat.reduceLeDiff, Nat.reduceEqDiff, Nat.reduceAdd, Int.reduceLT, Int.reduceLE, Int.reduceEq]))
    refine Fin.end hcl ?_ (by first | rfl | exact (List.append_nil _).symm | (simp only [List.append_assoc]; rfl)) ⟨?_, rfl⟩
    · simp only [AV.under, unders, und_vals, und_strs, Bool.and_self]
    · rw [hc0, valv_eq]

mutual
def fewV : Val → Int → Int
  | .mk _ _ _ ns l _, n => fewVs l (n - 1 - ns.length)
def fewVs : List Val → Int → Int
  | [], n => n
  | c :: l, n => if 0 ≤ n then fewVs l (fewV c n) else n
end
theorem fewV_eq (v : Val) (n : Int) : fewV v n = fewVs v.l (n - 1 - v.names.length) := by cases v; simp only [fewV]; rfl
theorem fewVs_neg {l : List Val} {n : Int} (h : ¬ 0 ≤ n) : fewVs l n = n := by cases l <;> simp [fewVs, h]
mutual
theorem fewV_b : ∀ (c : Val) (n : Int), mxV c ≤ 2 ^ 48 → 0 ≤ n → -(2 : Int) ^ 49 ≤ fewV c n ∧ fewV c n ≤ n ∧ (0 ≤ fewV c n → (szV c : Int) ≤ n - fewV c n)
  | .mk a b s ns l ok, n, hm, h => by
    simp only [mxV] at hm
    have hl := mxB_len ns
    have h1 := fewVs_b l (n - 1 - ns.length) (by omega) (by omega)
    simp only [fewV, szV]
    refine ⟨by omega, by omega, fun h0 => ?_⟩
    have := h1.2.2 h0
    omega
theorem fewVs_b : ∀ (l : List Val) (n : Int), mxVs l ≤ 2 ^ 48 → -(2 : Int) ^ 49 ≤ n → -(2 : Int) ^ 49 ≤ fewVs l n ∧ fewVs l n ≤ n ∧ (0 ≤ fewVs l n → (szVs l : Int) ≤ n - fewVs l n)
  | [], n, _, h => by simp only [fewVs, szVs]; omega
  | c :: l, n, hm, h => by
    simp only [mxVs] at hm
    by_cases h0 : 0 ≤ n
    · have h1 := fewV_b c n (by omega) h0
      have h2 := fewVs_b l (fewV c n) (by omega) (by omega)
      simp only [fewVs, if_pos h0, szVs]
      refine ⟨h2.1, by omega, fun h3 => ?_⟩
      have h4 := h2.2.2 h3
      have h5 := h1.2.2 (by omega)
      omega
    · simp only [fewVs, if_neg h0]
      exact ⟨h, Int.le_refl _, fun h3 => absurd h3 h0⟩
end

def ac16 : ACode := (.seq (.region [oq 4 (.move (cb false))]) (.seq (.region [oq 5 (qm 0), oq 6 (qm 1), oq 7 (.call (.func 27) [((tq 5), false), ((tq 6), false)]), oq 8 (.bin .geq (tq 7) (ci 0)), oq 4 (qm 8)]) .ret))
theorem c16 : cfn E0.P [] Tryz.f16 = some (ac16, [(.tmp 4)], 9) := by kernel_rfl
def ac27 : ACode := (.seq (.region [oq 4 (.move (ci 0))]) (.seq (.seq (.region [oq 5 (.move (ci 0))]) (.block 0 (.loop (.seq (.seq (.region [oq 6 (qm 5), oq 7 (qm 0), oq 8 (qn 7), oq 9 (.bin .lss (tq 6) (tq 8)), oq 10 (qm 9), og 11 (qm 1) 10 true, og 12 (.bin .geq (tq 11) (ci 0)) 10 true, oq 13 (.pick (tq 10) (tq 12) (cb false))]) (.cond (tq 13) .skip (.exit 0))) (.seq (.block 1 (.draw [oq 16 (qm 0), oq 17 (qm 5), oq 18 (qx 5 16 17), oq 19 (qf 4 18), oq 20 (ql 19), oq 21 (qm 1), oq 22 (.bin .sub (tq 21) (ci 1)), oq 23 (qm 0), oq 24 (qm 5), oq 25 (qx 5 23 24), oq 26 (qf 3 25), oq 27 (ql 26), oq 28 (qn 27), oq 29 (.bin .sub (tq 22) (tq 28)), oq 30 (.call (.func 27) [((tq 20), false), ((tq 29), false)]), oq 1 (qm 30)])) (.region [oq 14 (qm 5), oq 15 (.bin .add (tq 14) (ci 1)), oq 5 (qm 15)])))))) (.seq (.region [oq 31 (qm 1), oq 4 (qm 31)]) .ret)))
theorem c27 : cfn E0.P [] Tryz.f27 = some (ac27, [(.tmp 4)], 32) := by kernel_rfl

theorem rfewDefs_ev : ∀ (k : Nat) (l : List Val), szVs l ≤ k → mxVs l ≤ 2 ^ 48 → ∀ (n : Int), -(2 : Int) ^ 49 ≤ n → n ≤ 2 ^ 60 → ∀ h, EvR E0 27 [vall l, i64 n] h (i64 (fewVs l n)) := by
  intro k
  induction k using Nat.strongRecOn with
  | _ k ih =>
    intro l hk hm n hn hn2 h
    refine ev_of (fn := Tryz.f27) (hs := []) Tryz.func27 c27 (by simp) fun hcl => ?_
    have hlen := mxVs_len l
    generalize hR : fewVs l n = R
    simp only [ac27, awH, ↓awD, awP, Nat.reduceLeDiff, Nat.reduceEqDiff, Nat.reduceAdd, Int.reduceLT, Int.reduceLE, Int.reduceEq]
    refine LoopF.list l (by omega) (γ := Int) (fun i g => ⟨[(0, vall l), (1, i64 g), (5, i64 i)], h⟩)
      (fun i g => (-(2 : Int) ^ 49 ≤ g ∧ g ≤ 2 ^ 60) ∧ fewVs (l.drop i) g = R) n ⟨⟨by omega, by omega⟩, by simpa using hR⟩ (weak_of (by simp) (by simp [look])) ?_ ?_
    · rintro i a g ha ⟨hg, hv⟩ hi e1 w3
      rw [drop_get ha] at hv
      have hga := map_get valv l i a ha
      have hma := mxVs_mem (List.mem_of_getElem? ha)
      have hza := szVs_mem (List.mem_of_getElem? ha)
      have hmx := mxV_le a
      have hzx := szV_eq a
      have hln := mxB_len a.names
      simp only [e1, awH, ↓awD, awP, Nat.reduceLeDiff, Nat.reduceEqDiff, Nat.reduceAdd, Int.reduceLT, Int.reduceLE, Int.reduceEq]
      by_cases h0 : 0 ≤ g
      · have hb := fewV_b a g (by omega) h0
        have hca := fun h => ih (szVs a.l) (by omega) a.l (Nat.le_refl _) (by omega) (g - 1 - a.names.length) (by omega) (by omega) h
        have w1 : IntKind.i64.wrap (g - 1) = g - 1 := by rw [wrap_i64] <;> omega
        have w2 : IntKind.i64.wrap (g - 1 - a.names.length) = g - 1 - a.names.length := by rw [wrap_i64] <;> omega
        rw [fewVs, if_pos h0] at hv
        rw [fewV_eq] at hv hb
        have d0 : decide (0 ≤ g) = true := by rw [decide_eq_true_eq]; exact h0
        simp only [d0, awH, ↓awD, awP, Nat.reduceLeDiff, Nat.reduceEqDiff, Nat.reduceAdd, Int.reduceLT, Int.reduceLE, Int.reduceEq]
        repeat' (first | ((try refine Need.mk (by first | (first | omega | (simp only [awO] at *; omega) | (simp; omega)) | (constructor <;> (first | omega | (simp only [awO] at *; omega) | (simp; omega)))) ?_); refine Elem.recs hga (by first | (rw [valv_eq]; exact ⟨rfl, rfl⟩) | exact ⟨rfl, rfl⟩) ?_; simp only [valv_eq, w1, w2, aw21, awH, ↓awD, awP, Nat.reduceLeDiff, Nat.reduceEqDiff, Nat.reduceAdd, Int.reduceLT, Int.reduceLE, Int.reduceEq]) | ((first | refine EvF.ret (hca _) ?_ | refine EvRF.ret (hca _) ?_); simp only [w3, aw21, awH, ↓awD, awP, Nat.reduceLeDiff, Nat.reduceEqDiff, Nat.reduceAdd, Int.reduceLT, Int.reduceLE, Int.reduceEq]))
        exact ⟨(i + 1, fewVs a.l (g - 1 - a.names.length)), ⟨hi, ⟨⟨by omega, by omega⟩, hv⟩⟩, by simp only; omega, weak_of (rfl) (by simp [look])⟩
      · rw [fewVs, if_neg h0] at hv
        subst hv
        have d0 : decide (0 ≤ g) = false := by rw [decide_eq_false_iff_not]; exact h0
        simp only [d0, awH, ↓awD, awP, Nat.reduceLeDiff, Nat.reduceEqDiff, Nat.reduceAdd, Int.reduceLT, Int.reduceLE, Int.reduceEq]
        exact Fin.end hcl rfl (by first | rfl | exact (List.append_nil _).symm | (simp only [List.append_assoc]; rfl)) ⟨rfl, rfl⟩
    · rintro g ⟨_, hv⟩ e1
      rw [drop_len] at hv
      simp only [fewVs] at hv
      subst hv
      simp only [e1, awH, ↓awD, awP, Nat.reduceLeDiff, Nat.reduceEqDiff, Nat.reduceAdd, Int.reduceLT, Int.reduceLE, Int.reduceEq]
      exact Fin.end hcl rfl (by first | rfl | exact (List.append_nil _).symm | (simp only [List.append_assoc]; rfl)) ⟨rfl, rfl⟩

theorem fewValues_ev2 (l : List Val) (hm : mxVs l ≤ 2 ^ 48) (n : Int) (hn : -(2 : Int) ^ 49 ≤ n) (hn2 : n ≤ 2 ^ 60) (h : List AObj) : EvR E0 16 [vall l, i64 n] h (boolv (decide (0 ≤ fewVs l n))) := by
  refine ev_of (fn := Tryz.f16) (hs := []) Tryz.func16 c16 (by simp) fun hcl => ?_
  have h1 := fun h => rfewDefs_ev _ l (Nat.le_refl _) hm n hn hn2 h
  simp only [ac16, awH, ↓awD, awP, Nat.reduceLeDiff, Nat.reduceEqDiff, Nat.reduceAdd, Int.reduceLT, Int.reduceLE, Int.reduceEq]
  repeat' ((first | refine EvF.ret (h1 _) ?_ | refine EvRF.ret (h1 _) ?_); simp only [aw21, aw21, awH, ↓awD, awP, Nat.reduceLeDiff, Nat.reduceEqDiff, Nat.reduceAdd, Int.reduceLT, Int.reduceLE, Int.reduceEq])
  all_goals (refine Fin.end hcl rfl (by first | rfl | exact (List.append_nil _).symm | (simp only [List.append_assoc]; rfl)) ⟨?_, rfl⟩; first | rfl | ((try simp only [dnat, decide_eq_true_eq, decide_eq_false_iff_not, List.length_eq_zero_iff, List.length_pos_iff] at *); first | (simp [*, aw21]; done) | (simp [*, aw21]; omega) | (clear hcl; simp [*, aw21] <;> grind) | (simp [*, aw21])))

def ac18 : ACode := (.seq (.region [oq 1 (.box (tq 0)), oq 2 (.move (.const (.slice none 0 0)))]) (.seq (.seq (.eff [oq 3 (.buildSlice false 4 [zs, zi, zb, zn] 0 []), oq 4 (qf 8 1), oq 5 (ql 4), oq 6 (.appendO 4 56 [zs, zi, zb, zn] (tq 3) (tq 5)), oq 7 (qf 9 1), oq 8 (ql 7), oq 9 (.appendO 4 56 [zs, zi, zb, zn] (tq 6) (tq 8))] [false, false, false, true, false, false, true]) (.region [oq 2 (qm 9)])) .ret))
theorem c18 : cfn E0.P [(1,1014),(1,3),(1,503),(1,6),(1,506)] Tryz.f18 = some (ac18, [(.tmp 2)], 10) := by kernel_rfl

def z4 : List AV := [.lit (.string ⟨#[]⟩), .lit (.int .i64 0), .lit (.bool false), .sl .full []]
theorem rfields_ev (r : Dsc) (hl : r.parts.length + r.adds.length ≤ 2 ^ 40) (h : List AObj) : EvR E0 18 [dscv r] h (fldl r.fields) := by
  refine Ev.freezeS z4 4 (flds_fit _) (flds_one _) (unders_of fun x hx => ?_) rfl ?_
  · simp only [flatC, List.mem_flatMap, List.mem_map] at hx
    obtain ⟨_, ⟨c, _, rfl⟩, hx⟩ := hx
    exact flds_und c x hx
  refine ev_of (fn := Tryz.f18) (hs := [(1,1014),(1,3),(1,503),(1,6),(1,506)]) Tryz.func18 c18 (by simp) fun hcl => ?_
  simp only [ac18, dscv_eq, awH, ↓awD, awP, Nat.reduceLeDiff, Nat.reduceEqDiff, Nat.reduceAdd, Int.reduceLT, Int.reduceLE, Int.reduceEq]
  generalize hob : AObj.cells [i64 r.kind, boolv r.ext, rgl r.set, i64 r.lo, i64 r.hi, str r.frm, strl r.names, strl r.more, fldl r.parts, fldl r.adds, intl r.order, i64 r.elem] = oR
  have g0 : (h ++ [oR])[h.length]? = some (AObj.cells [i64 r.kind, boolv r.ext, rgl r.set, i64 r.lo, i64 r.hi, str r.frm, strl r.names, strl r.more, fldl r.parts, fldl r.adds, intl r.order, i64 r.elem]) := by rw [hob]; simp
  refine Need.mk ⟨rfl, by decide, by decide, by simp [litParts]⟩ ?_
  simp only [g0, awH, ↓awD, awP, Nat.reduceLeDiff, Nat.reduceEqDiff, Nat.reduceAdd, Int.reduceLT, Int.reduceLE, Int.reduceEq]
  refine AppO.useN (z := z4) (P := h) (J := [oR]) (lo := h.length) (es := []) rfl rfl (.inl ⟨rfl, rfl⟩) (by decide) rfl (fun e he => by cases he) (flds_fit _) (flds_one _) rfl (flds_strip _) (by simp only [List.length_map, List.length_nil]; omega) (by simp only [List.length_map, List.length_nil]; omega) fun J1 s1 hs1 hF1 hH1 => ?_
  have g1 : (h ++ J1)[h.length]? = some (AObj.cells [i64 r.kind, boolv r.ext, rgl r.set, i64 r.lo, i64 r.hi, str r.frm, strl r.names, strl r.more, fldl r.parts, fldl r.adds, intl r.order, i64 r.elem]) := hF1 _ _ g0 (fun a b hh => by cases hh)
  have o1 := hs1.one
  refine AndF.mk ?_ ?_
  · simp only [g1, awH, ↓awD, awP, Nat.reduceLeDiff, Nat.reduceEqDiff, Nat.reduceAdd, Int.reduceLT, Int.reduceLE, Int.reduceEq]
    refine Need.mk ⟨rfl, by decide, by decide, by simp [litParts]⟩ ?_
    simp only [g1, awH, ↓awD, awP, Nat.reduceLeDiff, Nat.reduceEqDiff, Nat.reduceAdd, Int.reduceLT, Int.reduceLE, Int.reduceEq]
  simp only [g1, o1, List.nil_append, awH, ↓awD, awP, Nat.reduceLeDiff, Nat.reduceEqDiff, Nat.reduceAdd, Int.reduceLT, Int.reduceLE, Int.reduceEq]
  rw [List.nil_append] at hs1
  refine AppO.useN (z := z4) (P := h) (J := J1) (lo := h.length) (es := r.parts.map fldv) rfl rfl hs1 (by decide) rfl (flds_fit _) (flds_fit _) (flds_one _) (flds_strip _) (flds_strip _) (by simp only [List.length_map]; omega) (by simp only [List.length_map]; omega) fun J2 s2 hs2 hF2 hH2 => ?_
  have g2 : (h ++ J2)[h.length]? = some (AObj.cells [i64 r.kind, boolv r.ext, rgl r.set, i64 r.lo, i64 r.hi, str r.frm, strl r.names, strl r.more, fldl r.parts, fldl r.adds, intl r.order, i64 r.elem]) := hF2 _ _ g1 (fun a b hh => by
    rcases hH1 _ _ _ hh with ⟨a', b', hc⟩ | hc
    · cases hc
    · simp at hc; omega)
  have o2 := hs2.one
  refine AndF.mk ?_ ?_
  · simp only [g2, o1, awH, ↓awD, awP, Nat.reduceLeDiff, Nat.reduceEqDiff, Nat.reduceAdd, Int.reduceLT, Int.reduceLE, Int.reduceEq]
    refine Need.mk ⟨rfl, by decide, by decide, by simp [litParts]⟩ ?_
    simp only [g2, o1, awH, ↓awD, awP, Nat.reduceLeDiff, Nat.reduceEqDiff, Nat.reduceAdd, Int.reduceLT, Int.reduceLE, Int.reduceEq]
  simp only [g2, o1, o2, awH, ↓awD, awP, Nat.reduceLeDiff, Nat.reduceEqDiff, Nat.reduceAdd, Int.reduceLT, Int.reduceLE, Int.reduceEq]
  refine Fin.all (by simp) ⟨hcl, s2, J2, rfl, rfl, ?_⟩
  rw [← List.map_append] at hs2
  exact hs2

def Wide (d : List Dsc) : Prop := d.length ≤ 2 ^ 47 ∧ ∀ r, r ∈ d → r.set.length ≤ 2 ^ 47 ∧ r.frm.size ≤ 2 ^ 47 ∧ r.names.length ≤ 2 ^ 47 ∧ r.more.length ≤ 2 ^ 47 ∧ r.parts.length ≤ 2 ^ 47 ∧ r.adds.length ≤ 2 ^ 47 ∧ r.order.length ≤ 2 ^ 47 ∧ ∀ f, f ∈ r.fields → f.name.size ≤ 2 ^ 47 ∧ mxVs f.dfl ≤ 2 ^ 47
theorem low_strs (l : List ByteArray) : lows (l.map str) = l.map str := by rw [lows_map, List.map_map]; rfl
mutual
theorem low_val : ∀ (v : Val), (valv v).low = valv v
  | .mk k n s ns l _ => by
    have := low_vals l
    simp only [valv, AV.low, lows, this]
    rw [show lows (ns.map fun s => AV.lit (.string s)) = ns.map fun s => AV.lit (.string s) from low_strs ns]
theorem low_vals : ∀ (l : List Val), lows (valsv l) = valsv l
  | [] => by simp only [valsv, lows]
  | s :: l => by simp only [valsv, lows, low_val s, low_vals l]
end

def ac9 : ACode := (.seq (.region [oq 2 (.move (cb false))]) (.seq (.seq (.region [oq 6 (qm 0), oq 7 (qn 6), oq 8 (.bin .gtr (tq 7) (ci 60))]) (.cond (tq 8) (.seq (.region [oq 2 (.move (cb false))]) .ret) .skip)) (.seq (.seq (.region [oq 3 (.move (ci 0))]) (.block 0 (.loop (.seq (.seq (.region [oq 9 (qm 3), oq 10 (qm 0), oq 11 (qn 10), oq 12 (.bin .lss (tq 9) (tq 11))]) (.cond (tq 12) .skip (.exit 0))) (.seq (.block 1 (.seq (.seq (.region [oq 15 (qm 0), oq 16 (qm 3), oq 17 (qx 12 15 16), oq 18 (qf 2 17), oq 19 (ql 18), oq 20 (qn 19), oq 21 (.bin .gtr (tq 20) (ci 30)), oq 22 (qm 21), og 23 (qm 0) 22 false, og 24 (qm 3) 22 false, og 25 (qx 12 23 24) 22 false, og 26 (qf 6 25) 22 false, og 27 (ql 26) 22 false, og 28 (qn 27) 22 false, og 29 (.bin .gtr (tq 28) (ci 60)) 22 false, oq 30 (.pick (tq 22) (cb true) (tq 29)), oq 31 (qm 30), og 32 (qm 0) 31 false, og 33 (qm 3) 31 false, og 34 (qx 12 32 33) 31 false, og 35 (qf 7 34) 31 false, og 36 (ql 35) 31 false, og 37 (qn 36) 31 false, og 38 (.bin .gtr (tq 37) (ci 60)) 31 false, oq 39 (.pick (tq 31) (cb true) (tq 38)), oq 40 (qm 39), og 41 (qm 0) 40 false, og 42 (qm 3) 40 false, og 43 (qx 12 41 42) 40 false, og 44 (qf 8 43) 40 false, og 45 (ql 44) 40 false, og 46 (qn 45) 40 false, og 47 (.bin .gtr (tq 46) (ci 30)) 40 false, oq 48 (.pick (tq 40) (cb true) (tq 47)), oq 49 (qm 48), og 50 (qm 0) 49 false, og 51 (qm 3) 49 false, og 52 (qx 12 50 51) 49 false, og 53 (qf 9 52) 49 false, og 54 (ql 53) 49 false, og 55 (qn 54) 49 false, og 56 (.bin .gtr (tq 55) (ci 30)) 49 false, oq 57 (.pick (tq 49) (cb true) (tq 56)), oq 58 (qm 57), og 59 (qm 0) 58 false, og 60 (qm 3) 58 false, og 61 (qx 12 59 60) 58 false, og 62 (qf 10 61) 58 false, og 63 (ql 62) 58 false, og 64 (qn 63) 58 false, og 65 (.bin .gtr (tq 64) (ci 100)) 58 false, oq 66 (.pick (tq 58) (cb true) (tq 65))]) (.cond (tq 66) (.seq (.region [oq 2 (.move (cb false))]) .ret) .skip)) (.seq (.region [oq 67 (qm 0), oq 68 (qm 3), oq 69 (qx 12 67 68), oq 70 (qs 12 69), oq 71 (.call (.func 18) [((tq 70), false)]), oq 4 (qm 71)]) (.seq (.region [oq 5 (.move (ci 0))]) (.block 2 (.loop (.seq (.seq (.region [oq 72 (qm 5), oq 73 (qm 4), oq 74 (qn 73), oq 75 (.bin .lss (tq 72) (tq 74))]) (.cond (tq 75) .skip (.exit 2))) (.seq (.block 3 (.seq (.region [oq 78 (qm 4), oq 79 (qm 5), oq 80 (qx 4 78 79), oq 81 (qf 3 80), oq 82 (ql 81), oq 83 (.call (.func 16) [((tq 82), false), ((ci 30), false)]), oq 84 (.un .not (tq 83))]) (.cond (tq 84) (.seq (.region [oq 2 (.move (cb false))]) .ret) .skip))) (.region [oq 76 (qm 5), oq 77 (.bin .add (tq 76) (ci 1)), oq 5 (qm 77)]))))))))) (.region [oq 13 (qm 3), oq 14 (.bin .add (tq 13) (ci 1)), oq 3 (qm 14)])))))) (.seq (.region [oq 2 (.move (cb true))]) .ret))))
theorem c9 : cfn E0.P [] Tryz.f9 = some (ac9, [(.tmp 2)], 85) := by kernel_rfl

def smallR (r : Dsc) : Bool := (!(decide (30 < r.set.length) || (decide (60 < r.names.length) || (decide (60 < r.more.length) || (decide (30 < r.parts.length) || (decide (30 < r.adds.length) || decide (100 < r.order.length))))))) && r.fields.all fun f => decide (0 ≤ fewVs f.dfl 30)
def smallT (d : List Dsc) : Bool := decide (d.length ≤ 60) && d.all smallR
theorem smallR_bd {r : Dsc} (hs : smallR r = true) (hw : r.frm.size ≤ 2 ^ 47 ∧ ∀ f, f ∈ r.fields → f.name.size ≤ 2 ^ 47 ∧ mxVs f.dfl ≤ 2 ^ 47) : BD (2 ^ 30) r := by
  simp only [smallR, Bool.and_eq_true, Bool.not_eq_true', Bool.or_eq_false_iff, decide_eq_false_iff_not] at hs
  obtain ⟨⟨h1, h2, h3, h4, h5, h6⟩, _⟩ := hs
  exact ⟨by omega, hw.1, by omega, by omega, by omega, by omega, by omega, fun f hf => hw.2 f (List.mem_append_left _ hf), fun f hf => hw.2 f (List.mem_append_right _ hf)⟩
theorem small_ev (d : List Dsc) (hw : Wide d) (h : List AObj) : EvR E0 9 [dscl d] h (boolv (smallT d)) := by
  refine ev_of (fn := Tryz.f9) (hs := []) Tryz.func9 c9 (by simp) fun hcl => ?_
  have d0 : decide ((60 : Int) < (d.length : Int)) = !decide (d.length ≤ 60) := by rw [Bool.eq_iff_iff]; simp; omega
  cases hd : decide (d.length ≤ 60)
  · rw [hd] at d0
    have hR : smallT d = false := by simp [smallT, hd]
    rw [hR]
    simp only [ac9, d0, awH, ↓awD, awP, Nat.reduceLeDiff, Nat.reduceEqDiff, Nat.reduceAdd, Int.reduceLT, Int.reduceLE, Int.reduceEq]
    exact Fin.end hcl rfl (by first | rfl | exact (List.append_nil _).symm | (simp only [List.append_assoc]; rfl)) ⟨rfl, rfl⟩
  · rw [hd] at d0
    have hR : smallT d = d.all smallR := by simp [smallT, hd]
    rw [hR]
    generalize hRR : d.all smallR = R
    simp only [ac9, d0, awH, ↓awD, awP, Nat.reduceLeDiff, Nat.reduceEqDiff, Nat.reduceAdd, Int.reduceLT, Int.reduceLE, Int.reduceEq]
    have hw0 := hw.1
    refine LoopF.list d (by omega) (γ := Unit) (fun i _ => ⟨[(0, dscl d), (3, i64 i)], h⟩) (fun i _ => (d.drop i).all smallR = R) () (by simpa using hRR) (weak_of rfl (by simp [look])) ?_ ?_
    · rintro i r _ ha hv hi e1 w3
      rw [drop_get ha, List.all_cons] at hv
      have hrm := List.mem_of_getElem? ha
      have hga := map_get dscv d i r ha
      obtain ⟨w1, w2, w4, w5, w6, w7, w8, w9⟩ := hw.2 r hrm
      have c1 : decide ((30 : Int) < (r.set.length : Int)) = decide (30 < r.set.length) := by rw [decide_eq_decide]; omega
      have c2 : decide ((60 : Int) < (r.names.length : Int)) = decide (60 < r.names.length) := by rw [decide_eq_decide]; omega
      have c3 : decide ((60 : Int) < (r.more.length : Int)) = decide (60 < r.more.length) := by rw [decide_eq_decide]; omega
      have c4 : decide ((30 : Int) < (r.parts.length : Int)) = decide (30 < r.parts.length) := by rw [decide_eq_decide]; omega
      have c5 : decide ((30 : Int) < (r.adds.length : Int)) = decide (30 < r.adds.length) := by rw [decide_eq_decide]; omega
      have c6 : decide ((100 : Int) < (r.order.length : Int)) = decide (100 < r.order.length) := by rw [decide_eq_decide]; omega
      have hfs := fun (k1 : decide (30 < r.parts.length) = false) (k2 : decide (30 < r.adds.length) = false) h => rfields_ev r (by rw [decide_eq_false_iff_not] at k1 k2; omega) h
      simp only [dscv_eq] at hfs
      have hfl2 : r.fields.length < 2 ^ 60 := by simp only [Dsc.fields, List.length_append]; omega
      simp only [e1, awH, ↓awD, awP, Nat.reduceLeDiff, Nat.reduceEqDiff, Nat.reduceAdd, Int.reduceLT, Int.reduceLE, Int.reduceEq]
      repeat' (first | ((try refine Need.mk (by first | (first | omega | (simp only [awO] at *; omega) | (simp; omega)) | (constructor <;> (first | omega | (simp only [awO] at *; omega) | (simp; omega)))) ?_); refine Elem.recs hga (by first | (rw [dscv_eq]; exact ⟨rfl, rfl⟩) | exact ⟨rfl, rfl⟩) ?_; simp only [dscv_eq, c1, c2, c3, c4, c5, c6, w3, aw21, awH, ↓awD, awP, Nat.reduceLeDiff, Nat.reduceEqDiff, Nat.reduceAdd, Int.reduceLT, Int.reduceLE, Int.reduceEq]) | ((first | refine EvF.ret (hfs (by assumption) (by assumption) _) ?_ | refine EvRF.ret (hfs (by assumption) (by assumption) _) ?_); simp only [w3, aw21, awH, ↓awD, awP, Nat.reduceLeDiff, Nat.reduceEqDiff, Nat.reduceAdd, Int.reduceLT, Int.reduceLE, Int.reduceEq]) | (refine BrF.mk (fun hb => ?_) (fun hb => ?_) <;> (try rw [hb]) <;> simp only [c1, c2, c3, c4, c5, c6, w3, aw21, awH, ↓awD, awP, Nat.reduceLeDiff, Nat.reduceEqDiff, Nat.reduceAdd, Int.reduceLT, Int.reduceLE, Int.reduceEq]))
      iterate 6
        · clear hfs; simp only [smallR, *, Bool.true_or, Bool.or_true, Bool.false_or, Bool.or_false, Bool.not_true, Bool.false_and] at hv
          subst hv
          exact Fin.end hcl rfl (by first | rfl | exact (List.append_nil _).symm | (simp only [List.append_assoc]; rfl)) ⟨rfl, rfl⟩
      generalize hrest : (d.drop (i + 1)).all smallR = rest at hv
      have hv' : ((r.fields.all fun f => decide (0 ≤ fewVs f.dfl 30)) && rest) = R := by
        clear hfs
        simp only [smallR, *, Bool.or_false, Bool.false_or, Bool.not_false, Bool.true_and] at hv; exact hv
      refine LoopF.list r.fields hfl2 (γ := Unit) (fun j _ => ⟨[(0, dscl d), (3, i64 i), (4, fldl r.fields), (5, i64 j)], h⟩) (fun j _ => ((r.fields.drop j).all (fun f => decide (0 ≤ fewVs f.dfl 30)) && rest) = R) () (by simpa using hv') (weak_of rfl (by simp [look])) ?_ ?_
      · rintro j f _ hfa hvj hj e2 w3j
        rw [drop_get hfa, List.all_cons] at hvj
        have hgf := map_get fldv r.fields j f hfa
        have hfw := fun h => fewValues_ev2 f.dfl (by have := (w9 f (List.mem_of_getElem? hfa)).2; omega) 30 (by omega) (by omega) h
        simp only [e2, w3j, awH, ↓awD, awP, Nat.reduceLeDiff, Nat.reduceEqDiff, Nat.reduceAdd, Int.reduceLT, Int.reduceLE, Int.reduceEq]
        repeat' (first | ((try refine Need.mk (by first | (first | omega | (simp only [awO] at *; omega) | (simp; omega)) | (constructor <;> (first | omega | (simp only [awO] at *; omega) | (simp; omega)))) ?_); refine Elem.recs hgf (by first | (rw [fldv_eq]; exact ⟨rfl, rfl⟩) | exact ⟨rfl, rfl⟩) ?_; simp only [fldv_eq, w3j, aw21, awH, ↓awD, awP, Nat.reduceLeDiff, Nat.reduceEqDiff, Nat.reduceAdd, Int.reduceLT, Int.reduceLE, Int.reduceEq]) | ((first | refine EvF.ret (hfw _) ?_ | refine EvRF.ret (hfw _) ?_); simp only [w3j, aw21, awH, ↓awD, awP, Nat.reduceLeDiff, Nat.reduceEqDiff, Nat.reduceAdd, Int.reduceLT, Int.reduceLE, Int.reduceEq]) | (refine BrF.mk (fun hb => ?_) (fun hb => ?_) <;> (try rw [hb]) <;> simp only [w3j, aw21, awH, ↓awD, awP, Nat.reduceLeDiff, Nat.reduceEqDiff, Nat.reduceAdd, Int.reduceLT, Int.reduceLE, Int.reduceEq]))
        · rw [hb, Bool.true_and] at hvj
          exact ⟨(j + 1, ()), ⟨hj, hvj⟩, by simp only; omega, weak_of rfl (by simp [look])⟩
        · rw [hb, Bool.false_and, Bool.false_and] at hvj
          subst hvj
          exact Fin.end hcl rfl (by first | rfl | exact (List.append_nil _).symm | (simp only [List.append_assoc]; rfl)) ⟨rfl, rfl⟩
      · rintro _ hvj e2
        rw [drop_len] at hvj
        simp only [List.all_nil, Bool.true_and] at hvj
        simp only [e2, w3, awH, ↓awD, awP, Nat.reduceLeDiff, Nat.reduceEqDiff, Nat.reduceAdd, Int.reduceLT, Int.reduceLE, Int.reduceEq]
        exact ⟨(i + 1, ()), ⟨hi, by rw [hrest]; exact hvj⟩, by simp only; omega, weak_of (rfl) (by simp [look])⟩
    · rintro _ hv e1
      rw [drop_len] at hv
      simp only [List.all_nil] at hv
      subst hv
      simp only [e1, awH, ↓awD, awP, Nat.reduceLeDiff, Nat.reduceEqDiff, Nat.reduceAdd, Int.reduceLT, Int.reduceLE, Int.reduceEq]
      exact Fin.end hcl rfl (by first | rfl | exact (List.append_nil _).symm | (simp only [List.append_assoc]; rfl)) ⟨rfl, rfl⟩
end Go.Abs.Fr
