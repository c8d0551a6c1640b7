/- The document's values: whether a table and its defaults are right; whether a value is of its first row. -/
import Derived.Test.YtloimemacnjpgaaGreatS15Rf12
import Derived.Test.YtloimemacnjpgaaGreatS15SvJ
import Derived.Test.YtloimemacnjpgaaGreatS15RwM
set_option linter.all false
namespace Go.Abs.Fr
open Go Go.Abs Go.Proofs
set_option linter.unusedSimpArgs false
set_option maxRecDepth 100000

def ac20 : ACode := (.seq (.region [oq 3 (.box (tq 1)), oq 4 (.move (ci 0))]) (.seq (.seq (.region [oq 5 (qm 0), oq 6 (.call (.func 35) [((tq 5), false)]), oq 7 (.un .not (tq 6))]) (.cond (tq 7) (.seq (.region [oq 4 (.move (ci 1))]) .ret) .skip)) (.seq (.seq (.region [oq 8 (qs 5 3), oq 9 (.call (.func 36) [((tq 8), false), ((ci 40), false)])]) (.cond (tq 9) (.seq (.region [oq 4 (.move (ci 9))]) .ret) .skip)) (.seq (.seq (.region [oq 10 (qm 0), oq 11 (qs 5 3), oq 12 (.call (.func 37) [((tq 10), false), ((ci 0), false), ((tq 11), false), ((ci 40), false)]), oq 13 (.un .not (tq 12))]) (.cond (tq 13) (.seq (.region [oq 4 (.move (ci 4))]) .ret) .skip)) (.seq (.region [oq 4 (.move (ci 0))]) .ret)))))
theorem c20 : cfn E0.P [] Tryz.f20 = some (ac20, [(.tmp 4)], 14) := by kernel_rfl
def ac35 : ACode := (.seq (.region [oq 2 (.move (cb false))]) (.seq (.seq (.region [oq 6 (qm 0), oq 7 (.call (.func 48) [((tq 6), false)]), oq 8 (.un .not (tq 7))]) (.cond (tq 8) (.seq (.region [oq 2 (.move (cb false))]) .ret) .skip)) (.seq (.seq (.region [oq 3 (.move (ci 0))]) (.block 0 (.loop (.seq (.seq (.region [oq 9 (qm 3), oq 10 (qm 0), oq 11 (qn 10), oq 12 (.bin .lss (tq 9) (tq 11))]) (.cond (tq 12) .skip (.exit 0))) (.seq (.block 1 (.seq (.region [oq 15 (qm 0), oq 16 (qm 3), oq 17 (qx 12 15 16), oq 18 (qs 12 17), oq 19 (.call (.func 18) [((tq 18), false)]), oq 4 (qm 19)]) (.seq (.region [oq 5 (.move (ci 0))]) (.block 2 (.loop (.seq (.seq (.region [oq 20 (qm 5), oq 21 (qm 4), oq 22 (qn 21), oq 23 (.bin .lss (tq 20) (tq 22))]) (.cond (tq 23) .skip (.exit 2))) (.seq (.block 3 (.seq (.draw [oq 26 (qm 4), oq 27 (qm 5), oq 28 (qx 4 26 27), oq 29 (qf 3 28), oq 30 (ql 29), oq 31 (qn 30), oq 32 (.bin .eql (tq 31) (ci 1)), oq 33 (qm 32), og 34 (qm 4) 33 true, og 35 (qm 5) 33 true, og 36 (qx 4 34 35) 33 true, og 37 (qf 3 36) 33 true, og 38 (ql 37) 33 true, og 39 (.indexAddr 5 (tq 38) (ci 0)) 33 true, og 40 (qf 0 39) 33 true, og 41 (ql 40) 33 true, og 42 (.call (.func 49) [((tq 41), false)]) 33 true, og 43 (qm 42) 33 true, og 44 (qm 0) 43 true, og 45 (qm 4) 43 true, og 46 (qm 5) 43 true, og 47 (qx 4 45 46) 43 true, og 48 (qf 1 47) 43 true, og 49 (ql 48) 43 true, og 50 (qm 4) 43 true, og 51 (qm 5) 43 true, og 52 (qx 4 50 51) 43 true, og 53 (qf 3 52) 43 true, og 54 (ql 53) 43 true, og 55 (.indexAddr 5 (tq 54) (ci 0)) 43 true, og 56 (qs 5 55) 43 true, og 57 (.call (.func 37) [((tq 44), false), ((tq 49), false), ((tq 56), false), ((ci 40), false)]) 43 true, og 58 (.pick (tq 43) (tq 57) (cb false)) 33 true, og 59 (.un .not (tq 58)) 33 true, oq 60 (.pick (tq 33) (tq 59) (cb false))]) (.cond (tq 60) (.seq (.region [oq 2 (.move (cb false))]) .ret) .skip))) (.region [oq 24 (qm 5), oq 25 (.bin .add (tq 24) (ci 1)), oq 5 (qm 25)])))))))) (.region [oq 13 (qm 3), oq 14 (.bin .add (tq 13) (ci 1)), oq 3 (qm 14)])))))) (.seq (.region [oq 2 (.move (cb true))]) .ret))))
theorem c35 : cfn E0.P [] Tryz.f35 = some (ac35, [(.tmp 2)], 61) := by kernel_rfl

def bad1 (d : List Dsc) (f : Fld) : Bool := f.dfl.any fun x => !(simpK x.kind && hasV d 40 f.t x)
set_option maxHeartbeats 4000000 in
theorem r15right_ev (d : List Dsc) (hd : ∀ r, r ∈ d → BD (2 ^ 30) r) (hl : d.length < 2 ^ 30) (h : List AObj) : EvR E0 35 [dscl d] h (boolv (rightT d)) := by
  refine ev_of (fn := Tryz.f35) (hs := []) Tryz.func35 c35 (by simp) fun hcl => ?_
  have ht := fun h => rtab_ev d hd (by omega) h
  cases htt : tabT d
  · rw [htt] at ht
    have hR : rightT d = false := by simp [rightT, htt]
    rw [hR]
    simp only [ac35, awH, ↓awD, awP, Nat.reduceLeDiff, Nat.reduceEqDiff, Nat.reduceAdd, Int.reduceLT, Int.reduceLE, Int.reduceEq]
    ((first | refine EvF.ret (ht _) ?_ | refine EvRF.ret (ht _) ?_); simp only [aw21, aw21, awH, ↓awD, awP, Nat.reduceLeDiff, Nat.reduceEqDiff, Nat.reduceAdd, Int.reduceLT, Int.reduceLE, Int.reduceEq])
    exact Fin.end hcl rfl (by first | rfl | exact (List.append_nil _).symm | (simp only [List.append_assoc]; rfl)) ⟨rfl, rfl⟩
  · rw [htt] at ht
    obtain ⟨hro, hpos, hro3⟩ := rows_ok htt
    have hR : rightT d = d.all (dflT d) := by simp [rightT, htt]
    rw [hR]
    generalize hRR : d.all (dflT d) = R
    simp only [ac35, awH, ↓awD, awP, Nat.reduceLeDiff, Nat.reduceEqDiff, Nat.reduceAdd, Int.reduceLT, Int.reduceLE, Int.reduceEq]
    ((first | refine EvF.ret (ht _) ?_ | refine EvRF.ret (ht _) ?_); simp only [aw21, aw21, awH, ↓awD, awP, Nat.reduceLeDiff, Nat.reduceEqDiff, Nat.reduceAdd, Int.reduceLT, Int.reduceLE, Int.reduceEq])
    refine LoopF.list d (by omega) (γ := Unit) (fun i _ => ⟨[(0, dscl d), (3, i64 i)], h⟩) (fun i _ => (d.drop i).all (dflT d) = R) () (by simpa using hRR) (weak_of (by simp) (by simp [look])) ?_ ?_
    · rintro i r _ ha hv hi e1 w3
      rw [drop_get ha, List.all_cons] at hv
      have hrm := List.mem_of_getElem? ha
      have hga := map_get dscv d i r ha
      have hBD := hd r hrm
      have hfl : r.parts.length + r.adds.length ≤ 2 ^ 40 := by have := hBD.2.2.2.2.1; have := hBD.2.2.2.2.2.1; omega
      have hfs := fun h => rfields_ev r hfl h
      simp only [dscv_eq] at hfs
      simp only [e1, w3, awH, ↓awD, awP, Nat.reduceLeDiff, Nat.reduceEqDiff, Nat.reduceAdd, Int.reduceLT, Int.reduceLE, Int.reduceEq]
      repeat' (first | ((try refine Need.mk (by first | (first | omega | (simp only [awO] at *; omega) | (simp; omega)) | (constructor <;> (first | omega | (simp only [awO] at *; omega) | (simp; omega)))) ?_); refine Elem.recs hga (by first | (rw [dscv_eq]; exact ⟨rfl, rfl⟩) | exact ⟨rfl, rfl⟩) ?_; simp only [dscv_eq, w3, aw21, awH, ↓awD, awP, Nat.reduceLeDiff, Nat.reduceEqDiff, Nat.reduceAdd, Int.reduceLT, Int.reduceLE, Int.reduceEq]) | ((first | refine EvF.ret (hfs _) ?_ | refine EvRF.ret (hfs _) ?_); simp only [w3, aw21, awH, ↓awD, awP, Nat.reduceLeDiff, Nat.reduceEqDiff, Nat.reduceAdd, Int.reduceLT, Int.reduceLE, Int.reduceEq]))
      have hfl2 : r.fields.length < 2 ^ 60 := by simp only [Dsc.fields, List.length_append]; omega
      generalize hrest : (d.drop (i + 1)).all (dflT d) = rest at hv
      have hv' : (!r.fields.any (bad1 d) && rest) = R := hv
      refine LoopF.list r.fields hfl2 (γ := Unit) (fun j _ => ⟨[(0, dscl d), (3, i64 i), (4, fldl r.fields), (5, i64 j)], h⟩) (fun j _ => (!(r.fields.drop j).any (bad1 d) && rest) = R) () (by simpa using hv') (weak_of rfl (by simp [look])) ?_ ?_
      · rintro j f _ hfa hvj hj e2 w4
        rw [drop_get hfa, List.any_cons] at hvj
        have hfm := List.mem_of_getElem? hfa
        have hBf := hBD.fields f hfm
        have hgf := map_get fldv r.fields j f hfa
        have hft := (hro r hrm).1 f hfm
        have hdl := (hro3 r hrm).1 f hfm
        simp only [e2, w4, awH, ↓awD, awP, Nat.reduceLeDiff, Nat.reduceEqDiff, Nat.reduceAdd, Int.reduceLT, Int.reduceLE, Int.reduceEq]
        cases hdf : f.dfl with
        | nil =>
          have hb : bad1 d f = false := by simp [bad1, hdf]
          rw [hb, Bool.false_or] at hvj
          have z1 : decide ((f.dfl.length : Int) = 1) = false := by rw [hdf]; rfl
          repeat' (first | ((try refine Need.mk (by first | (first | omega | (simp only [awO] at *; omega) | (simp; omega)) | (constructor <;> (first | omega | (simp only [awO] at *; omega) | (simp; omega)))) ?_); refine Elem.recs hgf (by first | (rw [fldv_eq]; exact ⟨rfl, rfl⟩) | exact ⟨rfl, rfl⟩) ?_; simp only [fldv_eq, w4, z1, aw21, awH, ↓awD, awP, Nat.reduceLeDiff, Nat.reduceEqDiff, Nat.reduceAdd, Int.reduceLT, Int.reduceLE, Int.reduceEq]))
          exact ⟨(j + 1, ()), ⟨hj, hvj⟩, by simp only; omega, weak_of rfl (by simp [look])⟩
        | cons x xs =>
          have hxs : xs = [] := by rw [hdf] at hdl; simpa using hdl
          subst hxs
          have hb : bad1 d f = !(simpK x.kind && hasV d 40 f.t x) := by simp [bad1, hdf]
          rw [hb] at hvj
          have z1 : decide ((f.dfl.length : Int) = 1) = true := by rw [hdf]; rfl
          have hlx : 0 < f.dfl.length := by rw [hdf]; simp
          have hgx : (f.dfl.map valv)[0]? = some (valv x) := by rw [hdf]; rfl
          have hxm : x ∈ f.dfl := by rw [hdf]; exact List.mem_cons_self
          have hsi := fun h => rsimple_ev x.kind h
          have hof := fun h => rof_all hd htt 40 (Nat.le_refl _) f.t x hft (by have := mxVs_mem hxm; have := hBf.2; omega) h
          simp only [valv_eq] at hof
          cases hs : simpK x.kind
          · rw [hs] at hsi hvj
            simp only [Bool.false_and, Bool.not_false, Bool.true_or, Bool.not_true] at hvj
            subst hvj
            repeat' (first | ((try refine Need.mk (by first | (first | omega | (simp only [awO] at *; omega) | (simp; omega)) | (constructor <;> (first | omega | (simp only [awO] at *; omega) | (simp; omega)))) ?_); refine Elem.recs hgf (by first | (rw [fldv_eq]; exact ⟨rfl, rfl⟩) | exact ⟨rfl, rfl⟩) ?_; simp only [fldv_eq, w4, z1, aw21, awH, ↓awD, awP, Nat.reduceLeDiff, Nat.reduceEqDiff, Nat.reduceAdd, Int.reduceLT, Int.reduceLE, Int.reduceEq]) | ((try refine Need.mk (by first | (first | omega | (simp only [awO] at *; omega) | (simp; omega)) | (constructor <;> (first | omega | (simp only [awO] at *; omega) | (simp; omega)))) ?_); refine Elem.recs hgx (by first | (rw [valv_eq]; exact ⟨rfl, rfl⟩) | exact ⟨rfl, rfl⟩) ?_; simp only [valv_eq, w4, z1, aw21, awH, ↓awD, awP, Nat.reduceLeDiff, Nat.reduceEqDiff, Nat.reduceAdd, Int.reduceLT, Int.reduceLE, Int.reduceEq]) | ((first | refine EvF.ret (hsi _) ?_ | refine EvRF.ret (hsi _) ?_); simp only [w4, z1, aw21, awH, ↓awD, awP, Nat.reduceLeDiff, Nat.reduceEqDiff, Nat.reduceAdd, Int.reduceLT, Int.reduceLE, Int.reduceEq]))
            exact Fin.end hcl rfl (by first | rfl | exact (List.append_nil _).symm | (simp only [List.append_assoc]; rfl)) ⟨rfl, rfl⟩
          · rw [hs] at hsi hvj
            rw [Bool.true_and] at hvj
            cases ho : hasV d 40 f.t x
            · rw [ho] at hof hvj
              simp only [Bool.not_false, Bool.true_or, Bool.not_true, Bool.false_and] at hvj
              subst hvj
              repeat' (first | ((try refine Need.mk (by first | (first | omega | (simp only [awO] at *; omega) | (simp; omega)) | (constructor <;> (first | omega | (simp only [awO] at *; omega) | (simp; omega)))) ?_); refine Elem.recs hgf (by first | (rw [fldv_eq]; exact ⟨rfl, rfl⟩) | exact ⟨rfl, rfl⟩) ?_; simp only [fldv_eq, w4, z1, aw21, awH, ↓awD, awP, Nat.reduceLeDiff, Nat.reduceEqDiff, Nat.reduceAdd, Int.reduceLT, Int.reduceLE, Int.reduceEq]) | ((try refine Need.mk (by first | (first | omega | (simp only [awO] at *; omega) | (simp; omega)) | (constructor <;> (first | omega | (simp only [awO] at *; omega) | (simp; omega)))) ?_); refine Elem.recs hgx (by first | (rw [valv_eq]; exact ⟨rfl, rfl⟩) | exact ⟨rfl, rfl⟩) ?_; simp only [valv_eq, w4, z1, aw21, awH, ↓awD, awP, Nat.reduceLeDiff, Nat.reduceEqDiff, Nat.reduceAdd, Int.reduceLT, Int.reduceLE, Int.reduceEq]) | ((first | refine EvF.ret (hsi _) ?_ | refine EvRF.ret (hsi _) ?_); simp only [w4, z1, aw21, awH, ↓awD, awP, Nat.reduceLeDiff, Nat.reduceEqDiff, Nat.reduceAdd, Int.reduceLT, Int.reduceLE, Int.reduceEq]) | ((first | refine EvF.ret (hof _) ?_ | refine EvRF.ret (hof _) ?_); simp only [w4, z1, aw21, awH, ↓awD, awP, Nat.reduceLeDiff, Nat.reduceEqDiff, Nat.reduceAdd, Int.reduceLT, Int.reduceLE, Int.reduceEq]))
              exact Fin.end hcl rfl (by first | rfl | exact (List.append_nil _).symm | (simp only [List.append_assoc]; rfl)) ⟨rfl, rfl⟩
            · rw [ho] at hof hvj
              simp only [Bool.not_true, Bool.false_or] at hvj
              repeat' (first | ((try refine Need.mk (by first | (first | omega | (simp only [awO] at *; omega) | (simp; omega)) | (constructor <;> (first | omega | (simp only [awO] at *; omega) | (simp; omega)))) ?_); refine Elem.recs hgf (by first | (rw [fldv_eq]; exact ⟨rfl, rfl⟩) | exact ⟨rfl, rfl⟩) ?_; simp only [fldv_eq, w4, z1, aw21, awH, ↓awD, awP, Nat.reduceLeDiff, Nat.reduceEqDiff, Nat.reduceAdd, Int.reduceLT, Int.reduceLE, Int.reduceEq]) | ((try refine Need.mk (by first | (first | omega | (simp only [awO] at *; omega) | (simp; omega)) | (constructor <;> (first | omega | (simp only [awO] at *; omega) | (simp; omega)))) ?_); refine Elem.recs hgx (by first | (rw [valv_eq]; exact ⟨rfl, rfl⟩) | exact ⟨rfl, rfl⟩) ?_; simp only [valv_eq, w4, z1, aw21, awH, ↓awD, awP, Nat.reduceLeDiff, Nat.reduceEqDiff, Nat.reduceAdd, Int.reduceLT, Int.reduceLE, Int.reduceEq]) | ((first | refine EvF.ret (hsi _) ?_ | refine EvRF.ret (hsi _) ?_); simp only [w4, z1, aw21, awH, ↓awD, awP, Nat.reduceLeDiff, Nat.reduceEqDiff, Nat.reduceAdd, Int.reduceLT, Int.reduceLE, Int.reduceEq]) | ((first | refine EvF.ret (hof _) ?_ | refine EvRF.ret (hof _) ?_); simp only [w4, z1, aw21, awH, ↓awD, awP, Nat.reduceLeDiff, Nat.reduceEqDiff, Nat.reduceAdd, Int.reduceLT, Int.reduceLE, Int.reduceEq]))
              exact ⟨(j + 1, ()), ⟨hj, hvj⟩, by simp only; omega, weak_of rfl (by simp [look])⟩
      · rintro _ hvj e2
        rw [drop_len] at hvj
        simp only [List.any_nil, Bool.not_false, Bool.true_and] at hvj
        simp only [e2, w3, awH, ↓awD, awP, Nat.reduceLeDiff, Nat.reduceEqDiff, Nat.reduceAdd, Int.reduceLT, Int.reduceLE, Int.reduceEq]
        exact ⟨(i + 1, ()), ⟨hi, by rw [hrest]; exact hvj⟩, by simp only; omega, weak_of rfl (by simp [look])⟩
    · rintro _ hv e1
      rw [drop_len] at hv
      simp only [List.all_nil] at hv
      subst hv
      simp only [e1, awH, ↓awD, awP, Nat.reduceLeDiff, Nat.reduceEqDiff, Nat.reduceAdd, Int.reduceLT, Int.reduceLE, Int.reduceEq]
      exact Fin.end hcl rfl (by first | rfl | exact (List.append_nil _).symm | (simp only [List.append_assoc]; rfl)) ⟨rfl, rfl⟩
theorem rcheck_ev (d : List Dsc) (hd : ∀ r, r ∈ d → BD (2 ^ 30) r) (hl : d.length < 2 ^ 30) (v : Val) (hv : mxV v ≤ 2 ^ 48) (h : List AObj) : EvR E0 20 [dscl d, valv v] h (i64 (checkT d v)) := by
  refine ev_of (fn := Tryz.f20) (hs := []) Tryz.func20 c20 (by simp) fun hcl => ?_
  have hpl := hpl h
  have hr := fun h => r15right_ev d hd hl h
  have hde := fun h => rdeep_ev 40 (Nat.le_refl _) v hv h
  unfold checkT
  cases hrt : rightT d
  · rw [hrt] at hr
    simp only [ac20, valv_eq, hpl, awH, ↓awD, awP, Nat.reduceLeDiff, Nat.reduceEqDiff, Nat.reduceAdd, Int.reduceLT, Int.reduceLE, Int.reduceEq]
    repeat' ((first | refine EvF.ret (hr _) ?_ | refine EvRF.ret (hr _) ?_); simp only [hpl, aw21, awH, ↓awD, awP, Nat.reduceLeDiff, Nat.reduceEqDiff, Nat.reduceAdd, Int.reduceLT, Int.reduceLE, Int.reduceEq])
    exact Fin.end hcl rfl (by first | rfl | exact (List.append_nil _).symm | (simp only [List.append_assoc]; rfl)) ⟨rfl, rfl⟩
  · rw [hrt] at hr
    obtain ⟨hok, hpos⟩ := tab_ok hrt
    have htab : tabT d = true := by simp only [rightT, Bool.and_eq_true] at hrt; exact hrt.1
    have hin : inT d 0 := ⟨Int.le_refl _, by omega⟩
    have hof := fun h => rof_all hd htab 40 (Nat.le_refl _) 0 v hin hv h
    simp only [valv_eq] at hde hof
    cases h1 : deepV 40 v
    · rw [h1] at hde
      cases h2 : hasV d 40 0 v
      all_goals
        rw [h2] at hof
        simp only [ac20, valv_eq, hpl, awH, ↓awD, awP, Nat.reduceLeDiff, Nat.reduceEqDiff, Nat.reduceAdd, Int.reduceLT, Int.reduceLE, Int.reduceEq]
        repeat' (first | ((first | refine EvF.ret (hr _) ?_ | refine EvRF.ret (hr _) ?_); simp only [hpl, aw21, awH, ↓awD, awP, Nat.reduceLeDiff, Nat.reduceEqDiff, Nat.reduceAdd, Int.reduceLT, Int.reduceLE, Int.reduceEq]) | ((first | refine EvF.ret (hde _) ?_ | refine EvRF.ret (hde _) ?_); simp only [hpl, aw21, awH, ↓awD, awP, Nat.reduceLeDiff, Nat.reduceEqDiff, Nat.reduceAdd, Int.reduceLT, Int.reduceLE, Int.reduceEq]) | ((first | refine EvF.ret (hof _) ?_ | refine EvRF.ret (hof _) ?_); simp only [hpl, aw21, awH, ↓awD, awP, Nat.reduceLeDiff, Nat.reduceEqDiff, Nat.reduceAdd, Int.reduceLT, Int.reduceLE, Int.reduceEq]))
        exact Fin.end hcl rfl (by first | rfl | exact (List.append_nil _).symm | (simp only [List.append_assoc]; rfl)) ⟨rfl, rfl⟩
    · rw [h1] at hde
      simp only [ac20, valv_eq, hpl, awH, ↓awD, awP, Nat.reduceLeDiff, Nat.reduceEqDiff, Nat.reduceAdd, Int.reduceLT, Int.reduceLE, Int.reduceEq]
      repeat' (first | ((first | refine EvF.ret (hr _) ?_ | refine EvRF.ret (hr _) ?_); simp only [hpl, aw21, awH, ↓awD, awP, Nat.reduceLeDiff, Nat.reduceEqDiff, Nat.reduceAdd, Int.reduceLT, Int.reduceLE, Int.reduceEq]) | ((first | refine EvF.ret (hde _) ?_ | refine EvRF.ret (hde _) ?_); simp only [hpl, aw21, awH, ↓awD, awP, Nat.reduceLeDiff, Nat.reduceEqDiff, Nat.reduceAdd, Int.reduceLT, Int.reduceLE, Int.reduceEq]))
      exact Fin.end hcl rfl (by first | rfl | exact (List.append_nil _).symm | (simp only [List.append_assoc]; rfl)) ⟨rfl, rfl⟩

def ac21 : ACode := (.seq (.region [oq 5 (.box (tq 2)), oq 6 (.alloc [zi, zi, zs, zn, zn])]) (.seq (.region [oq 15 (qm 0), oq 16 (qm 1), oq 17 (qx 12 15 16), oq 18 (qs 12 17), oq 7 (.alloc [zi, zb, zn, zi, zi, zs, zn, zn, zn, zn, zn, zi]), oz (.store 12 (tq 7) (tq 18))]) (.seq (.region [oq 19 (qf 0 5), oq 20 (ql 19), oq 21 (qf 1 5), oq 22 (ql 21), oq 23 (qf 2 5), oq 24 (ql 23), oq 25 (.build [zi, zi, zs, zn, zn] [(0, (1, (tq 20))), (1, (1, (tq 22))), (2, (1, (tq 24)))]), oq 8 (.alloc [zi, zi, zs, zn, zn]), oz (.store 5 (tq 8) (tq 25))]) (.seq (.seq (.region [oq 26 (qf 0 7), oq 27 (ql 26)]) (.block 0 (.seq (.region [oq 29 (.bin .eql (tq 27) (ci 8)), oq 28 (qm 29)]) (.cond (tq 28) (.seq (.region [oq 30 (qs 12 7), oq 31 (.call (.func 18) [((tq 30), false)]), oq 9 (qm 31)]) (.seq (.region [oq 10 (.move (ci 0))]) (.block 1 (.loop (.seq (.seq (.region [oq 32 (qm 10), oq 33 (qm 9), oq 34 (qn 33), oq 35 (.bin .lss (tq 32) (tq 34))]) (.cond (tq 35) .skip (.exit 1))) (.seq (.block 2 (.seq (.draw [oq 38 (qf 3 5), oq 39 (ql 38), oq 40 (qm 9), oq 41 (qm 10), oq 42 (qx 4 40 41), oq 43 (qf 0 42), oq 44 (ql 43), oq 45 (.call (.func 38) [((tq 39), false), ((tq 44), false)]), oq 11 (qm 45)]) (.seq (.region [oq 46 (qm 11), oq 47 (.bin .geq (tq 46) (ci 0))]) (.cond (tq 47) (.seq (.seq (.draw [oq 48 (qf 3 8), oq 49 (ql 48), oq 50 (qm 9), oq 51 (qm 10), oq 52 (qx 4 50 51), oq 53 (qf 0 52), oq 54 (ql 53), oq 55 (.buildSlice false 1 [zs] 1 [(0, (tq 54))])]) (.region [oq 56 (.appendO 1 16 [zs] (tq 49) (tq 55)), oq 57 (qf 3 8), oz (.store 1 (tq 57) (tq 56))])) (.seq (.draw [oq 58 (qf 4 8), oq 59 (ql 58), oq 60 (qm 0), oq 61 (qm 9), oq 62 (qm 10), oq 63 (qx 4 61 62), oq 64 (qf 1 63), oq 65 (ql 64), oq 66 (qf 4 5), oq 67 (ql 66), oq 68 (qm 11), oq 69 (qx 5 67 68), oq 70 (qs 5 69), oq 71 (.call (.func 21) [((tq 60), false), ((tq 65), false), ((tq 70), false)]), oq 72 (.buildSlice false 5 [zi, zi, zs, zn, zn] 1 [(0, (tq 71))])]) (.region [oq 73 (.appendO 5 80 [zi, zi, zs, zn, zn] (tq 59) (tq 72)), oq 74 (qf 4 8), oz (.store 1 (tq 74) (tq 73))]))) (.seq (.region [oq 75 (qm 9), oq 76 (qm 10), oq 77 (qx 4 75 76), oq 78 (qf 3 77), oq 79 (ql 78), oq 80 (qn 79), oq 81 (.bin .eql (tq 80) (ci 1))]) (.cond (tq 81) (.seq (.seq (.draw [oq 82 (qf 3 8), oq 83 (ql 82), oq 84 (qm 9), oq 85 (qm 10), oq 86 (qx 4 84 85), oq 87 (qf 0 86), oq 88 (ql 87), oq 89 (.buildSlice false 1 [zs] 1 [(0, (tq 88))])]) (.region [oq 90 (.appendO 1 16 [zs] (tq 83) (tq 89)), oq 91 (qf 3 8), oz (.store 1 (tq 91) (tq 90))])) (.seq (.draw [oq 92 (qf 4 8), oq 93 (ql 92), oq 94 (qm 0), oq 95 (qm 9), oq 96 (qm 10), oq 97 (qx 4 95 96), oq 98 (qf 1 97), oq 99 (ql 98), oq 100 (qm 9), oq 101 (qm 10), oq 102 (qx 4 100 101), oq 103 (qf 3 102), oq 104 (ql 103), oq 105 (.indexAddr 5 (tq 104) (ci 0)), oq 106 (qs 5 105), oq 107 (.call (.func 21) [((tq 94), false), ((tq 99), false), ((tq 106), false)]), oq 108 (.buildSlice false 5 [zi, zi, zs, zn, zn] 1 [(0, (tq 107))])]) (.region [oq 109 (.appendO 5 80 [zi, zi, zs, zn, zn] (tq 93) (tq 108)), oq 110 (qf 4 8), oz (.store 1 (tq 110) (tq 109))]))) .skip)))))) (.region [oq 36 (qm 10), oq 37 (.bin .add (tq 36) (ci 1)), oq 10 (qm 37)]))))))) (.seq (.region [oq 112 (.bin .eql (tq 27) (ci 9)), oq 111 (qm 112)]) (.cond (tq 111) (.seq (.region [oq 12 (.move (ci 0))]) (.block 3 (.loop (.seq (.seq (.region [oq 113 (qm 12), oq 114 (qf 4 5), oq 115 (ql 114), oq 116 (qn 115), oq 117 (.bin .lss (tq 113) (tq 116))]) (.cond (tq 117) .skip (.exit 3))) (.seq (.block 4 (.seq (.draw [oq 120 (qf 4 8), oq 121 (ql 120), oq 122 (qm 0), oq 123 (qf 11 7), oq 124 (ql 123), oq 125 (qf 4 5), oq 126 (ql 125), oq 127 (qm 12), oq 128 (qx 5 126 127), oq 129 (qs 5 128), oq 130 (.call (.func 21) [((tq 122), false), ((tq 124), false), ((tq 129), false)]), oq 131 (.buildSlice false 5 [zi, zi, zs, zn, zn] 1 [(0, (tq 130))])]) (.region [oq 132 (.appendO 5 80 [zi, zi, zs, zn, zn] (tq 121) (tq 131)), oq 133 (qf 4 8), oz (.store 1 (tq 133) (tq 132))]))) (.region [oq 118 (qm 12), oq 119 (.bin .add (tq 118) (ci 1)), oq 12 (qm 119)])))))) (.seq (.region [oq 135 (.bin .eql (tq 27) (ci 10)), oq 134 (qm 135)]) (.cond (tq 134) (.seq (.region [oq 136 (qs 12 7), oq 137 (.call (.func 18) [((tq 136), false)]), oq 13 (qm 137)]) (.seq (.region [oq 14 (.move (ci 0))]) (.block 5 (.loop (.seq (.seq (.region [oq 138 (qm 14), oq 139 (qm 13), oq 140 (qn 139), oq 141 (.bin .lss (tq 138) (tq 140))]) (.cond (tq 141) .skip (.exit 5))) (.seq (.block 6 (.seq (.draw [oq 144 (qm 13), oq 145 (qm 14), oq 146 (qx 4 144 145), oq 147 (qf 0 146), oq 148 (ql 147), oq 149 (qf 2 5), oq 150 (ql 149), oq 151 (.bin .eql (tq 148) (tq 150))]) (.cond (tq 151) (.seq (.draw [oq 152 (qf 4 8), oq 153 (ql 152), oq 154 (qm 0), oq 155 (qm 13), oq 156 (qm 14), oq 157 (qx 4 155 156), oq 158 (qf 1 157), oq 159 (ql 158), oq 160 (qf 4 5), oq 161 (ql 160), oq 162 (.indexAddr 5 (tq 161) (ci 0)), oq 163 (qs 5 162), oq 164 (.call (.func 21) [((tq 154), false), ((tq 159), false), ((tq 163), false)]), oq 165 (.buildSlice false 5 [zi, zi, zs, zn, zn] 1 [(0, (tq 164))])]) (.region [oq 166 (.appendO 5 80 [zi, zi, zs, zn, zn] (tq 153) (tq 165)), oq 167 (qf 4 8), oz (.store 1 (tq 167) (tq 166))])) .skip))) (.region [oq 142 (qm 14), oq 143 (.bin .add (tq 142) (ci 1)), oq 14 (qm 143)]))))))) .skip)))))))) (.seq (.region [oq 168 (qs 5 8), oz (.store 5 (tq 6) (tq 168))]) .ret)))))
theorem c21 : cfn E0.P [(11,1016),(11,8),(12,1030),(12,15),(14,1016),(14,8),(15,1034),(15,17),(20,1024),(20,12),(27,1028),(27,14)] Tryz.f21 = some (ac21, [(.cell 6 (some 5))], 169) := by kernel_rfl

structure Hp4 (h G : List AObj) (a b c : AObj) : Prop where
  ln : G.length = h.length + 3
  e : G = h ++ [a] ++ [b] ++ [c]
  gV : ∀ o J, (G ++ [o] ++ J)[h.length]? = some a
  gS : ∀ o J, (G ++ [o] ++ J)[h.length + 1]? = some b
  gD : ∀ o J, (G ++ [o] ++ J)[h.length + 2]? = some c
  gO : ∀ o J, (G ++ [o] ++ J)[h.length + 3]? = some o
  sO : ∀ o J x, (G ++ [o] ++ J).set (h.length + 3) x = G ++ [x] ++ J
  sS : ∀ o J x, (G ++ [o] ++ J).set (h.length + 1) x = h ++ [a] ++ [x] ++ [c] ++ [o] ++ J
theorem hp4 (h : List AObj) (a b c : AObj) : Hp4 h (h ++ [a] ++ [b] ++ [c]) a b c := by
  refine ⟨by simp, rfl, ?_, ?_, ?_, ?_, ?_, ?_⟩ <;> intros <;> simp
theorem same_idx (l : List ByteArray) (s : ByteArray) : idx (fun x => decide (x = s)) l 0 = idx (fun x => decide (s = x)) l 0 := by
  congr 1; funext x; rw [decide_eq_decide]; exact eq_comm
set_option maxHeartbeats 8000000 in
theorem at_raw8 (d : List Dsc) (hBD : ∀ r, r ∈ d → BD (2 ^ 30) r) (n : Nat) (r : Dsc) (hr : d[n]? = some r) (v : Val) (B : Int → Val → Val) (hv : mxV v ≤ 2 ^ 48) (hvl : v.l.length ≤ 2 ^ 40) (hkk : v.kind = r.kind) (hk : r.kind = 8)
    (hl : v.names.length = v.l.length) (hdl : ∀ f, f ∈ r.fields → f.dfl.length ≤ 1) (hB : ∀ f, f ∈ r.fields → ∀ x, pick v f = some x → ∀ h, EvR E0 21 [dscl d, i64 f.t, valv x] h (valv (B f.t x))) (h : List AObj) :
    Ev E0 21 [dscl d, i64 n, valv v] h (RecP h (canF B r v)) := by
  have hm := hBD r (List.mem_of_getElem? hr)
  have hV := mxV_le v
  have l1 := mxB_len v.names
  have l3 := mxVs_len v.l
  have hnl : n < d.length := (List.getElem?_eq_some_iff.1 hr).1
  have hgd := map_get dscv d n r hr
  have hpl := hpl h
  have hfl : r.parts.length + r.adds.length ≤ 2 ^ 40 := by have := hm.2.2.2.2.1; have := hm.2.2.2.2.2.1; omega
  have hf := fun h => rfields_ev r hfl h
  have hfl2 : r.fields.length < 2 ^ 60 := by simp only [Dsc.fields, List.length_append]; omega
  simp only [dscv_eq] at hf
  refine ev_of (fn := Tryz.f21) (hs := [(11,1016),(11,8),(12,1030),(12,15),(14,1016),(14,8),(15,1034),(15,17),(20,1024),(20,12),(27,1028),(27,14)]) Tryz.func21 c21 (by simp) fun hcl => ?_
  have d8 : decide (r.kind = 8) = true := decide_eq_true hk
  simp only [ac21, valv_eq, awH, ↓awD, awP, Nat.reduceLeDiff, Nat.reduceEqDiff, Nat.reduceAdd, Int.reduceLT, Int.reduceLE, Int.reduceEq]
  repeat' (first | ((try refine Need.mk (by first | (first | omega | (simp only [awO] at *; omega) | (simp; omega)) | (constructor <;> (first | omega | (simp only [awO] at *; omega) | (simp; omega)))) ?_); refine Elem.recs hgd (by first | (rw [dscv_eq]; exact ⟨rfl, rfl⟩) | exact ⟨rfl, rfl⟩) ?_; simp only [dscv_eq, hpl, d8, aw21, awH, ↓awD, awP, Nat.reduceLeDiff, Nat.reduceEqDiff, Nat.reduceAdd, Int.reduceLT, Int.reduceLE, Int.reduceEq]))
  ((first | refine EvF.ret (hf _) ?_ | refine EvRF.ret (hf _) ?_); simp only [hpl, d8, aw21, awH, ↓awD, awP, Nat.reduceLeDiff, Nat.reduceEqDiff, Nat.reduceAdd, Int.reduceLT, Int.reduceLE, Int.reduceEq])
  generalize hO : h ++ [AObj.cells [i64 v.kind, i64 v.n, str v.s, strl v.names, vall v.l]] ++ [AObj.cells [i64 0, i64 0, str ⟨#[]⟩, .sl .full [], .sl .full []]] ++ [AObj.cells [i64 r.kind, boolv r.ext, rgl r.set, i64 r.lo, i64 r.hi, str r.frm, strl r.names, strl r.more, fldl r.parts, fldl r.adds, intl r.order, i64 r.elem]] = G
  obtain ⟨hG, hGe, gV, gS, gD, gO, sO, sS⟩ := hO ▸ hp4 h (AObj.cells [i64 v.kind, i64 v.n, str v.s, strl v.names, vall v.l]) (AObj.cells [i64 0, i64 0, str ⟨#[]⟩, .sl .full [], .sl .full []]) (AObj.cells [i64 r.kind, boolv r.ext, rgl r.set, i64 r.lo, i64 r.hi, str r.frm, strl r.names, strl r.more, fldl r.parts, fldl r.adds, intl r.order, i64 r.elem])
  refine LoopF.list r.fields hfl2 (γ := AV × AV × List AObj) (fun i g => ⟨[(0, dscl d), (5, .ref h.length 0), (6, .ref (h.length + 1) 0), (8, .ref (h.length + 3) 0), (9, fldl r.fields), (10, i64 i)], G ++ [.cells [i64 v.kind, i64 v.n, str v.s, g.1, g.2.1]] ++ g.2.2⟩)
    (fun i g => SlotOk (G ++ [.cells [i64 v.kind, i64 v.n, str v.s, g.1, g.2.1]] ++ g.2.2) (h.length + 4) z1 ((canN v (r.fields.take i)).map str) g.1 ∧ SlotOk (G ++ [.cells [i64 v.kind, i64 v.n, str v.s, g.1, g.2.1]] ++ g.2.2) (h.length + 4) z5 ((canL B v (r.fields.take i)).map valv) g.2.1 ∧ Apart g.1 g.2.1)
    (.sl .full [], .sl .full [], []) ⟨.inl ⟨rfl, rfl⟩, .inl ⟨rfl, rfl⟩, fun _ _ _ _ _ h => by cases h⟩ (weak_of (by simp [canN, canL]) (by simp [look])) ?_ ?_
  · rintro i f ⟨sN, sL, J⟩ ha ⟨hN, hL, hA⟩ hi e1 w3
    simp only at hN hL hA
    have hga := map_get fldv r.fields i f ha
    have hfm := List.mem_of_getElem? ha
    have hbf := hm.fields f hfm
    have hdl1 := hdl f hfm
    have hix := fun h => rhasS_ev v.names f.name (by omega) h
    rw [same_idx] at hix
    have hcn : (canN v (r.fields.take i)).length ≤ 2 ^ 31 := Nat.le_trans (canN_len v _) (by have := List.length_take_le i r.fields; have := hm.2.2.2.2.1; have := hm.2.2.2.2.2.1; simp only [Dsc.fields, List.length_append] at *; omega)
    have hcl2 : (canL B v (r.fields.take i)).length ≤ 2 ^ 31 := Nat.le_trans (canL_len B v _) (by have := List.length_take_le i r.fields; have := hm.2.2.2.2.1; have := hm.2.2.2.2.2.1; simp only [Dsc.fields, List.length_append] at *; omega)
    have oN := hN.one
    have oL := hL.one
    have hP : ∀ x, (G ++ [x]).length = h.length + 4 := fun x => by simp [hG]
    simp only [e1, w3, gV, gS, gD, gO, sO, awH, ↓awD, awP, Nat.reduceLeDiff, Nat.reduceEqDiff, Nat.reduceAdd, Int.reduceLT, Int.reduceLE, Int.reduceEq]
    repeat' (first | ((try refine Need.mk (by first | (first | omega | (simp only [awO] at *; omega) | (simp; omega)) | (constructor <;> (first | omega | (simp only [awO] at *; omega) | (simp; omega)))) ?_); refine Elem.recs hga (by first | (rw [fldv_eq]; exact ⟨rfl, rfl⟩) | exact ⟨rfl, rfl⟩) ?_; simp only [fldv_eq, w3, gV, gS, gD, gO, sO, aw21, awH, ↓awD, awP, Nat.reduceLeDiff, Nat.reduceEqDiff, Nat.reduceAdd, Int.reduceLT, Int.reduceLE, Int.reduceEq]) | ((first | refine EvF.ret (hix _) ?_ | refine EvRF.ret (hix _) ?_); simp only [w3, gV, gS, gD, gO, sO, aw21, awH, ↓awD, awP, Nat.reduceLeDiff, Nat.reduceEqDiff, Nat.reduceAdd, Int.reduceLT, Int.reduceLE, Int.reduceEq]))
    rcases idx_find (fun x => decide (f.name = x)) v.names 0 with ⟨e0, e2⟩ | ⟨k, a, e0, _, e2⟩
    · have z0 : decide ((0 : Int) ≤ -1) = false := rfl
      have hpk : pick v f = f.dfl.head? := by unfold pick; rw [e2]; rfl
      rcases (by cases f.dfl with | nil => exact .inl rfl | cons y ys => exact .inr ⟨y, ys, rfl⟩ : f.dfl = [] ∨ ∃ y ys, f.dfl = y :: ys) with hd | ⟨y, ys, hd⟩
      · rw [hd] at hpk
        have hln : decide ((f.dfl.length : Int) = 1) = false := by rw [hd]; rfl
        simp only [e2, z0, hln, w3, gV, gS, gD, gO, sO, awH, ↓awD, awP, Nat.reduceLeDiff, Nat.reduceEqDiff, Nat.reduceAdd, Int.reduceLT, Int.reduceLE, Int.reduceEq]
        repeat' (first | ((try refine Need.mk (by first | (first | omega | (simp only [awO] at *; omega) | (simp; omega)) | (constructor <;> (first | omega | (simp only [awO] at *; omega) | (simp; omega)))) ?_); refine Elem.recs hga (by first | (rw [fldv_eq]; exact ⟨rfl, rfl⟩) | exact ⟨rfl, rfl⟩) ?_; simp only [fldv_eq, w3, hln, gV, gS, gD, gO, sO, aw21, awH, ↓awD, awP, Nat.reduceLeDiff, Nat.reduceEqDiff, Nat.reduceAdd, Int.reduceLT, Int.reduceLE, Int.reduceEq]))
        exact ⟨(i + 1, sN, sL, J), ⟨hi, by rw [canN_skip ha hpk]; exact hN, by rw [canL_skip B ha hpk]; exact hL, hA⟩, by simp only; omega, weak_of rfl (by simp [look])⟩
      · have hys : ys = [] := by rw [hd] at hdl1; simpa using hdl1
        subst hys
        rw [hd] at hpk
        have hpk : pick v f = some y := hpk
        have hln : decide ((f.dfl.length : Int) = 1) = true := by rw [hd]; rfl
        have hdn : 0 < f.dfl.length := by rw [hd]; simp
        have hgy : (f.dfl.map valv)[0]? = some (valv y) := by rw [hd]; rfl
        have hBy := fun h => hB f hfm y hpk h
        simp only [valv_eq] at hBy
        simp only [e2, z0, hln, w3, gV, gS, gD, gO, sO, awH, ↓awD, awP, Nat.reduceLeDiff, Nat.reduceEqDiff, Nat.reduceAdd, Int.reduceLT, Int.reduceLE, Int.reduceEq]
        repeat' (first | ((try refine Need.mk (by first | (first | omega | (simp only [awO] at *; omega) | (simp; omega)) | (constructor <;> (first | omega | (simp only [awO] at *; omega) | (simp; omega)))) ?_); refine Elem.recs hga (by first | (rw [fldv_eq]; exact ⟨rfl, rfl⟩) | exact ⟨rfl, rfl⟩) ?_; simp only [fldv_eq, w3, hln, oN, oL, gV, gS, gD, gO, sO, aw21, awH, ↓awD, awP, Nat.reduceLeDiff, Nat.reduceEqDiff, Nat.reduceAdd, Int.reduceLT, Int.reduceLE, Int.reduceEq]) | (refine Need.mk (by simp only [litParts, List.mem_cons, List.not_mem_nil, or_false, forall_eq_or_imp, forall_eq]; refine ⟨by decide, by decide, by decide, ?_⟩; repeat' (first | exact ⟨rfl, rfl, rfl⟩ | rfl | constructor)) ?_; simp only [w3, oN, oL, gV, gS, gD, gO, sO, awH, ↓awD, awP, Nat.reduceLeDiff, Nat.reduceEqDiff, Nat.reduceAdd, Int.reduceLT, Int.reduceLE, Int.reduceEq]))
        refine AppO.use (lo := h.length + 4) (J := J) rfl (hP _) hN (by decide) rfl (fit_strs _) (fit_str _) (one_str _) (strip_strs _) rfl (by simp only [List.length_map, List.length_cons, List.length_nil]; omega) (by simp only [List.length_map, List.length_cons, List.length_nil]; omega) (by simp) fun J1 sN1 hN1 hF1 hH1 => ?_
        have oN1 := hN1.one
        have hL1 := hL.frm hF1 hA.symm
        have hA1 := hH1.apart hA.symm hL
        have hN1' : SlotOk (G ++ [.cells [i64 v.kind, i64 v.n, str v.s, sN1, sL]] ++ J1) (h.length + 4) z1 _ sN1 := hN1.swap (hP _) (hP _)
        have hL1' : SlotOk (G ++ [.cells [i64 v.kind, i64 v.n, str v.s, sN1, sL]] ++ J1) (h.length + 4) z5 _ sL := hL1.swap (hP _) (hP _)
        simp only [oN1, oN, oL, w3, e2, gV, gS, gD, gO, sO, awH, ↓awD, awP, Nat.reduceLeDiff, Nat.reduceEqDiff, Nat.reduceAdd, Int.reduceLT, Int.reduceLE, Int.reduceEq]
        repeat' (first | ((try refine Need.mk (by first | (first | omega | (simp only [awO] at *; omega) | (simp; omega)) | (constructor <;> (first | omega | (simp only [awO] at *; omega) | (simp; omega)))) ?_); refine Elem.recs hga (by first | (rw [fldv_eq]; exact ⟨rfl, rfl⟩) | exact ⟨rfl, rfl⟩) ?_; simp only [fldv_eq, w3, oN1, oL, gV, gS, gD, gO, sO, aw21, awH, ↓awD, awP, Nat.reduceLeDiff, Nat.reduceEqDiff, Nat.reduceAdd, Int.reduceLT, Int.reduceLE, Int.reduceEq]) | ((try refine Need.mk (by first | (first | omega | (simp only [awO] at *; omega) | (simp; omega)) | (constructor <;> (first | omega | (simp only [awO] at *; omega) | (simp; omega)))) ?_); refine Elem.recs hgy (by first | (rw [valv_eq]; exact ⟨rfl, rfl⟩) | exact ⟨rfl, rfl⟩) ?_; simp only [valv_eq, w3, oN1, oL, gV, gS, gD, gO, sO, aw21, awH, ↓awD, awP, Nat.reduceLeDiff, Nat.reduceEqDiff, Nat.reduceAdd, Int.reduceLT, Int.reduceLE, Int.reduceEq]) | ((first | refine EvF.ret (hBy _) ?_ | refine EvRF.ret (hBy _) ?_); simp only [w3, oN1, oL, gV, gS, gD, gO, sO, aw21, awH, ↓awD, awP, Nat.reduceLeDiff, Nat.reduceEqDiff, Nat.reduceAdd, Int.reduceLT, Int.reduceLE, Int.reduceEq]) | (refine Need.mk (by simp only [litParts, List.mem_cons, List.not_mem_nil, or_false, forall_eq_or_imp, forall_eq]; refine ⟨by decide, by decide, by decide, ?_⟩; repeat' (first | exact ⟨rfl, rfl, rfl⟩ | rfl | constructor)) ?_; simp only [w3, oN1, oL, gV, gS, gD, gO, sO, awH, ↓awD, awP, Nat.reduceLeDiff, Nat.reduceEqDiff, Nat.reduceAdd, Int.reduceLT, Int.reduceLE, Int.reduceEq]))
        refine AppO.use (z := z5) (lo := h.length + 4) (J := J1) rfl (hP _) hL1' (by decide) rfl (fit_vals _) (fit_val _) (one_val _) (strip_vals _) (strip_val _) (by simp only [List.length_map, List.length_cons, List.length_nil]; omega) (by simp only [List.length_map, List.length_cons, List.length_nil]; omega) (by simp) fun J2 sL2 hL2 hF2 hH2 => ?_
        have oL2 := hL2.one
        have hN2 := hN1'.frm hF2 hA1.symm
        have hA2 := hH2.apart hA1.symm hN1'
        simp only [oN1, oL2, w3, gV, gS, gD, gO, sO, awH, ↓awD, awP, Nat.reduceLeDiff, Nat.reduceEqDiff, Nat.reduceAdd, Int.reduceLT, Int.reduceLE, Int.reduceEq]
        exact ⟨(i + 1, sN1, sL2, J2), ⟨hi, by rw [canN_succ ha hpk, List.map_append]; exact hN2.swap (hP _) (hP _), by rw [canL_succ B ha hpk, List.map_append, List.map_cons, List.map_nil, valv_eq (B f.t y)]; exact hL2.swap (hP _) (hP _), hA2⟩, by simp only; omega, weak_of rfl (by simp [look])⟩
    · rw [Nat.zero_add] at e2
      have z0 : decide ((0 : Int) ≤ (k : Int)) = true := by simp
      have hk := lt_len e0
      obtain ⟨y, hy⟩ : ∃ y, v.l[k]? = some y := ⟨_, List.getElem?_eq_getElem (by omega)⟩
      have hpk : pick v f = some y := by unfold pick; rw [e2, if_pos (by omega), Int.toNat_natCast]; exact hy
      have hgy := map_get valv v.l k y hy
      have hBy := fun h => hB f hfm y hpk h
      simp only [valv_eq] at hBy
      simp only [e2, z0, w3, gV, gS, gD, gO, sO, awH, ↓awD, awP, Nat.reduceLeDiff, Nat.reduceEqDiff, Nat.reduceAdd, Int.reduceLT, Int.reduceLE, Int.reduceEq]
      repeat' (first | ((try refine Need.mk (by first | (first | omega | (simp only [awO] at *; omega) | (simp; omega)) | (constructor <;> (first | omega | (simp only [awO] at *; omega) | (simp; omega)))) ?_); refine Elem.recs hga (by first | (rw [fldv_eq]; exact ⟨rfl, rfl⟩) | exact ⟨rfl, rfl⟩) ?_; simp only [fldv_eq, w3, oN, oL, gV, gS, gD, gO, sO, aw21, awH, ↓awD, awP, Nat.reduceLeDiff, Nat.reduceEqDiff, Nat.reduceAdd, Int.reduceLT, Int.reduceLE, Int.reduceEq]) | (refine Need.mk (by simp only [litParts, List.mem_cons, List.not_mem_nil, or_false, forall_eq_or_imp, forall_eq]; refine ⟨by decide, by decide, by decide, ?_⟩; repeat' (first | exact ⟨rfl, rfl, rfl⟩ | rfl | constructor)) ?_; simp only [w3, oN, oL, gV, gS, gD, gO, sO, awH, ↓awD, awP, Nat.reduceLeDiff, Nat.reduceEqDiff, Nat.reduceAdd, Int.reduceLT, Int.reduceLE, Int.reduceEq]))
      refine AppO.use (lo := h.length + 4) (J := J) rfl (hP _) hN (by decide) rfl (fit_strs _) (fit_str _) (one_str _) (strip_strs _) rfl (by simp only [List.length_map, List.length_cons, List.length_nil]; omega) (by simp only [List.length_map, List.length_cons, List.length_nil]; omega) (by simp) fun J1 sN1 hN1 hF1 hH1 => ?_
      have oN1 := hN1.one
      have hL1 := hL.frm hF1 hA.symm
      have hA1 := hH1.apart hA.symm hL
      have hN1' : SlotOk (G ++ [.cells [i64 v.kind, i64 v.n, str v.s, sN1, sL]] ++ J1) (h.length + 4) z1 _ sN1 := hN1.swap (hP _) (hP _)
      have hL1' : SlotOk (G ++ [.cells [i64 v.kind, i64 v.n, str v.s, sN1, sL]] ++ J1) (h.length + 4) z5 _ sL := hL1.swap (hP _) (hP _)
      simp only [oN1, oN, oL, w3, e2, gV, gS, gD, gO, sO, awH, ↓awD, awP, Nat.reduceLeDiff, Nat.reduceEqDiff, Nat.reduceAdd, Int.reduceLT, Int.reduceLE, Int.reduceEq]
      repeat' (first | ((try refine Need.mk (by first | (first | omega | (simp only [awO] at *; omega) | (simp; omega)) | (constructor <;> (first | omega | (simp only [awO] at *; omega) | (simp; omega)))) ?_); refine Elem.recs hga (by first | (rw [fldv_eq]; exact ⟨rfl, rfl⟩) | exact ⟨rfl, rfl⟩) ?_; simp only [fldv_eq, w3, oN1, oL, gV, gS, gD, gO, sO, aw21, awH, ↓awD, awP, Nat.reduceLeDiff, Nat.reduceEqDiff, Nat.reduceAdd, Int.reduceLT, Int.reduceLE, Int.reduceEq]) | ((try refine Need.mk (by first | (first | omega | (simp only [awO] at *; omega) | (simp; omega)) | (constructor <;> (first | omega | (simp only [awO] at *; omega) | (simp; omega)))) ?_); refine Elem.recs hgy (by first | (rw [valv_eq]; exact ⟨rfl, rfl⟩) | exact ⟨rfl, rfl⟩) ?_; simp only [valv_eq, w3, oN1, oL, gV, gS, gD, gO, sO, aw21, awH, ↓awD, awP, Nat.reduceLeDiff, Nat.reduceEqDiff, Nat.reduceAdd, Int.reduceLT, Int.reduceLE, Int.reduceEq]) | ((first | refine EvF.ret (hBy _) ?_ | refine EvRF.ret (hBy _) ?_); simp only [w3, oN1, oL, gV, gS, gD, gO, sO, aw21, awH, ↓awD, awP, Nat.reduceLeDiff, Nat.reduceEqDiff, Nat.reduceAdd, Int.reduceLT, Int.reduceLE, Int.reduceEq]) | (refine Need.mk (by simp only [litParts, List.mem_cons, List.not_mem_nil, or_false, forall_eq_or_imp, forall_eq]; refine ⟨by decide, by decide, by decide, ?_⟩; repeat' (first | exact ⟨rfl, rfl, rfl⟩ | rfl | constructor)) ?_; simp only [w3, oN1, oL, gV, gS, gD, gO, sO, awH, ↓awD, awP, Nat.reduceLeDiff, Nat.reduceEqDiff, Nat.reduceAdd, Int.reduceLT, Int.reduceLE, Int.reduceEq]))
      refine AppO.use (z := z5) (lo := h.length + 4) (J := J1) rfl (hP _) hL1' (by decide) rfl (fit_vals _) (fit_val _) (one_val _) (strip_vals _) (strip_val _) (by simp only [List.length_map, List.length_cons, List.length_nil]; omega) (by simp only [List.length_map, List.length_cons, List.length_nil]; omega) (by simp) fun J2 sL2 hL2 hF2 hH2 => ?_
      have oL2 := hL2.one
      have hN2 := hN1'.frm hF2 hA1.symm
      have hA2 := hH2.apart hA1.symm hN1'
      simp only [oN1, oL2, w3, gV, gS, gD, gO, sO, awH, ↓awD, awP, Nat.reduceLeDiff, Nat.reduceEqDiff, Nat.reduceAdd, Int.reduceLT, Int.reduceLE, Int.reduceEq]
      exact ⟨(i + 1, sN1, sL2, J2), ⟨hi, by rw [canN_succ ha hpk, List.map_append]; exact hN2.swap (hP _) (hP _), by rw [canL_succ B ha hpk, List.map_append, List.map_cons, List.map_nil, valv_eq (B f.t y)]; exact hL2.swap (hP _) (hP _), hA2⟩, by simp only; omega, weak_of rfl (by simp [look])⟩
  · rintro ⟨sN, sL, J⟩ ⟨hN, hL, hA⟩ e1
    simp only at hN hL hA
    have oN := hN.one
    have oL := hL.one
    rw [List.take_length] at hN hL
    simp only [e1, oN, oL, gV, gS, gD, gO, sO, sS, List.length_cons, List.length_nil, awH, ↓awD, awP, Nat.reduceLeDiff, Nat.reduceEqDiff, Nat.reduceAdd, Int.reduceLT, Int.reduceLE, Int.reduceEq]
    have hu : canF B r v = .mk v.kind v.n v.s (canN v r.fields) (canL B v r.fields) v.ok := by have h8 : v.kind = 8 := hkk.trans hk; simp only [canF, h8, decide_true, cond_true]
    have gE : ∀ (a b c x : AObj) (J : List AObj), (h ++ [a] ++ [b] ++ [c] ++ [x] ++ J)[h.length + 1]? = some b := fun a b c x J => by
      rw [List.append_assoc, List.append_assoc, List.append_assoc, List.append_assoc, List.getElem?_append_right (by omega)]
      simp
    simp only [gE, awH, ↓awD, awP, Nat.reduceLeDiff, Nat.reduceEqDiff, Nat.reduceAdd, Int.reduceLT, Int.reduceLE, Int.reduceEq]
    (try refine Need.mk (by simp) ?_)
    (try simp only [gE, oN, oL, awH, ↓awD, awP, Nat.reduceLeDiff, Nat.reduceEqDiff, Nat.reduceAdd, Int.reduceLT, Int.reduceLE, Int.reduceEq])
    rw [hu]
    exact Fin.all (by simp only [List.length_append]; omega) ⟨sN, sL, _, rfl, by simp only [List.append_assoc]; rfl, .inl (SlotOk.lower (SlotOk.swap hN (by simp [hG]) (by simp)) (by omega)), .inl (SlotOk.lower (SlotOk.swap hL (by simp [hG]) (by simp)) (by omega)), hA⟩

set_option maxHeartbeats 8000000 in
theorem at_raw9 (d : List Dsc) (hBD : ∀ r, r ∈ d → BD (2 ^ 30) r) (n : Nat) (r : Dsc) (hr : d[n]? = some r) (v : Val) (B : Int → Val → Val) (hv : mxV v ≤ 2 ^ 48) (hvl : v.l.length ≤ 2 ^ 40) (hkk : v.kind = r.kind) (hk : r.kind = 9)
    (hB : ∀ x, x ∈ v.l → ∀ h, EvR E0 21 [dscl d, i64 r.elem, valv x] h (valv (B r.elem x))) (h : List AObj) :
    Ev E0 21 [dscl d, i64 n, valv v] h (RecP h (canF B r v)) := by
  have hm := hBD r (List.mem_of_getElem? hr)
  have hV := mxV_le v
  have l1 := mxB_len v.names
  have l3 := mxVs_len v.l
  have hnl : n < d.length := (List.getElem?_eq_some_iff.1 hr).1
  have hgd := map_get dscv d n r hr
  have hpl := hpl h
  have hfl : r.parts.length + r.adds.length ≤ 2 ^ 40 := by have := hm.2.2.2.2.1; have := hm.2.2.2.2.2.1; omega
  have hf := fun h => rfields_ev r hfl h
  have hfl2 : r.fields.length < 2 ^ 60 := by simp only [Dsc.fields, List.length_append]; omega
  simp only [dscv_eq] at hf
  refine ev_of (fn := Tryz.f21) (hs := [(11,1016),(11,8),(12,1030),(12,15),(14,1016),(14,8),(15,1034),(15,17),(20,1024),(20,12),(27,1028),(27,14)]) Tryz.func21 c21 (by simp) fun hcl => ?_
  have d8 : decide (r.kind = 8) = false := by rw [hk]; rfl
  have d9 : decide (r.kind = 9) = true := decide_eq_true hk
  simp only [ac21, valv_eq, awH, ↓awD, awP, Nat.reduceLeDiff, Nat.reduceEqDiff, Nat.reduceAdd, Int.reduceLT, Int.reduceLE, Int.reduceEq]
  repeat' (first | ((try refine Need.mk (by first | (first | omega | (simp only [awO] at *; omega) | (simp; omega)) | (constructor <;> (first | omega | (simp only [awO] at *; omega) | (simp; omega)))) ?_); refine Elem.recs hgd (by first | (rw [dscv_eq]; exact ⟨rfl, rfl⟩) | exact ⟨rfl, rfl⟩) ?_; simp only [dscv_eq, hpl, d8, d9, aw21, awH, ↓awD, awP, Nat.reduceLeDiff, Nat.reduceEqDiff, Nat.reduceAdd, Int.reduceLT, Int.reduceLE, Int.reduceEq]))
  generalize hO : h ++ [AObj.cells [i64 v.kind, i64 v.n, str v.s, strl v.names, vall v.l]] ++ [AObj.cells [i64 0, i64 0, str ⟨#[]⟩, .sl .full [], .sl .full []]] ++ [AObj.cells [i64 r.kind, boolv r.ext, rgl r.set, i64 r.lo, i64 r.hi, str r.frm, strl r.names, strl r.more, fldl r.parts, fldl r.adds, intl r.order, i64 r.elem]] = G
  obtain ⟨hG, hGe, gV, gS, gD, gO, sO, sS⟩ := hO ▸ hp4 h (AObj.cells [i64 v.kind, i64 v.n, str v.s, strl v.names, vall v.l]) (AObj.cells [i64 0, i64 0, str ⟨#[]⟩, .sl .full [], .sl .full []]) (AObj.cells [i64 r.kind, boolv r.ext, rgl r.set, i64 r.lo, i64 r.hi, str r.frm, strl r.names, strl r.more, fldl r.parts, fldl r.adds, intl r.order, i64 r.elem])
  refine LoopF.list v.l (by omega) (γ := AV × List AObj) (fun i g => ⟨[(0, dscl d), (5, .ref h.length 0), (6, .ref (h.length + 1) 0), (7, .ref (h.length + 2) 0), (8, .ref (h.length + 3) 0), (12, i64 i)], G ++ [.cells [i64 v.kind, i64 v.n, str v.s, .sl .full [], g.1]] ++ g.2⟩)
    (fun i g => SlotOk (G ++ [.cells [i64 v.kind, i64 v.n, str v.s, .sl .full [], g.1]] ++ g.2) (h.length + 4) z5 (((v.l.take i).map (B r.elem)).map valv) g.1) (.sl .full [], []) (.inl ⟨rfl, rfl⟩) (weak_of (by simp) (by simp [look])) ?_ ?_
  · rintro i y ⟨sL, J⟩ ha hL hi e1 w3
    simp only at hL
    have oL := hL.one
    have hgy := map_get valv v.l i y ha
    have hBy := fun h => hB y (List.mem_of_getElem? ha) h
    simp only [valv_eq] at hBy
    have htl : (v.l.take i).length ≤ 2 ^ 40 := by have := List.length_take_le i v.l; omega
    have hP : ∀ x, (G ++ [x]).length = h.length + 4 := fun x => by simp [hG]
    simp only [e1, oL, w3, gV, gS, gD, gO, sO, awH, ↓awD, awP, Nat.reduceLeDiff, Nat.reduceEqDiff, Nat.reduceAdd, Int.reduceLT, Int.reduceLE, Int.reduceEq]
    repeat' (first | ((try refine Need.mk (by first | (first | omega | (simp only [awO] at *; omega) | (simp; omega)) | (constructor <;> (first | omega | (simp only [awO] at *; omega) | (simp; omega)))) ?_); refine Elem.recs hgy (by first | (rw [valv_eq]; exact ⟨rfl, rfl⟩) | exact ⟨rfl, rfl⟩) ?_; simp only [valv_eq, oL, w3, gV, gS, gD, gO, sO, aw21, awH, ↓awD, awP, Nat.reduceLeDiff, Nat.reduceEqDiff, Nat.reduceAdd, Int.reduceLT, Int.reduceLE, Int.reduceEq]) | ((first | refine EvF.ret (hBy _) ?_ | refine EvRF.ret (hBy _) ?_); simp only [oL, w3, gV, gS, gD, gO, sO, aw21, awH, ↓awD, awP, Nat.reduceLeDiff, Nat.reduceEqDiff, Nat.reduceAdd, Int.reduceLT, Int.reduceLE, Int.reduceEq]) | (refine Need.mk (by simp only [litParts, List.mem_cons, List.not_mem_nil, or_false, forall_eq_or_imp, forall_eq]; refine ⟨by decide, by decide, by decide, ?_⟩; repeat' (first | exact ⟨rfl, rfl, rfl⟩ | rfl | constructor)) ?_; simp only [oL, w3, gV, gS, gD, gO, sO, awH, ↓awD, awP, Nat.reduceLeDiff, Nat.reduceEqDiff, Nat.reduceAdd, Int.reduceLT, Int.reduceLE, Int.reduceEq]))
    refine AppO.use (z := z5) (lo := h.length + 4) (J := J) rfl (hP _) hL (by decide) rfl (fit_vals _) (fit_val _) (one_val _) (strip_vals _) (strip_val _) (by simp only [List.length_map, List.length_cons, List.length_nil]; omega) (by simp only [List.length_map, List.length_cons, List.length_nil]; omega) (by simp) fun J1 sL1 hL1 hF1 hH1 => ?_
    have oL1 := hL1.one
    simp only [oL1, w3, gV, gS, gD, gO, sO, awH, ↓awD, awP, Nat.reduceLeDiff, Nat.reduceEqDiff, Nat.reduceAdd, Int.reduceLT, Int.reduceLE, Int.reduceEq]
    refine ⟨(i + 1, sL1, J1), ⟨hi, ?_⟩, by simp only; omega, weak_of rfl (by simp [look])⟩
    simp only
    rw [List.take_add_one, ha, List.map_append, List.map_append]
    simp only [Option.toList_some, List.map_cons, List.map_nil]
    rw [valv_eq (B r.elem y)]
    exact hL1.swap (hP _) (hP _)
  · rintro ⟨sL, J⟩ hL e1
    simp only at hL
    have oL := hL.one
    rw [List.take_length] at hL
    simp only [e1, oL, gV, gS, gD, gO, sO, sS, List.length_cons, List.length_nil, awH, ↓awD, awP, Nat.reduceLeDiff, Nat.reduceEqDiff, Nat.reduceAdd, Int.reduceLT, Int.reduceLE, Int.reduceEq]
    have hu : canF B r v = .mk v.kind v.n v.s [] (v.l.map (B r.elem)) v.ok := by have h9 : v.kind = 9 := hkk.trans hk; simp [canF, h9]
    have gE : ∀ (a b c x : AObj) (J : List AObj), (h ++ [a] ++ [b] ++ [c] ++ [x] ++ J)[h.length + 1]? = some b := fun a b c x J => by
      rw [List.append_assoc, List.append_assoc, List.append_assoc, List.append_assoc, List.getElem?_append_right (by omega)]
      simp
    have gSS : ∀ (a b c e x : AObj), ((h ++ [a] ++ [b] ++ [c] ++ [e]).set (h.length + 1) x)[h.length + 1]? = some x := fun a b c e x => by rw [List.getElem?_set_self (by simp)]
    simp only [gE, gSS, oL, awH, ↓awD, awP, Nat.reduceLeDiff, Nat.reduceEqDiff, Nat.reduceAdd, Int.reduceLT, Int.reduceLE, Int.reduceEq]
    (try refine Need.mk (by simp) ?_)
    (try simp only [gE, gSS, oL, awH, ↓awD, awP, Nat.reduceLeDiff, Nat.reduceEqDiff, Nat.reduceAdd, Int.reduceLT, Int.reduceLE, Int.reduceEq])
    rw [hu]
    exact Fin.all (by simp only [List.length_append]; omega) ⟨_, sL, _, rfl, by simp only [List.append_assoc]; rfl, .inr ⟨.full, rfl⟩, .inl (SlotOk.lower (SlotOk.swap hL (by simp [hG]) (by simp)) (by omega)), apart_full⟩
set_option maxHeartbeats 8000000 in
theorem at_raw0 (d : List Dsc) (hBD : ∀ r, r ∈ d → BD (2 ^ 30) r) (n : Nat) (r : Dsc) (hr : d[n]? = some r) (v : Val) (B : Int → Val → Val) (hv : mxV v ≤ 2 ^ 48) (hkk : v.kind = r.kind) (hk : parted r.kind = false) (h : List AObj) :
    Ev E0 21 [dscl d, i64 n, valv v] h (RecP h (canF B r v)) := by
  have hm := hBD r (List.mem_of_getElem? hr)
  have hV := mxV_le v
  have l1 := mxB_len v.names
  have l3 := mxVs_len v.l
  have hnl : n < d.length := (List.getElem?_eq_some_iff.1 hr).1
  have hgd := map_get dscv d n r hr
  have hpl := hpl h
  have hfl : r.parts.length + r.adds.length ≤ 2 ^ 40 := by have := hm.2.2.2.2.1; have := hm.2.2.2.2.2.1; omega
  have hf := fun h => rfields_ev r hfl h
  have hfl2 : r.fields.length < 2 ^ 60 := by simp only [Dsc.fields, List.length_append]; omega
  simp only [dscv_eq] at hf
  refine ev_of (fn := Tryz.f21) (hs := [(11,1016),(11,8),(12,1030),(12,15),(14,1016),(14,8),(15,1034),(15,17),(20,1024),(20,12),(27,1028),(27,14)]) Tryz.func21 c21 (by simp) fun hcl => ?_
  simp only [parted, Bool.or_eq_false_iff] at hk
  have d8 := hk.1.1
  have d9 := hk.1.2
  have d10 := hk.2
  simp only [ac21, valv_eq, awH, ↓awD, awP, Nat.reduceLeDiff, Nat.reduceEqDiff, Nat.reduceAdd, Int.reduceLT, Int.reduceLE, Int.reduceEq]
  repeat' (first | ((try refine Need.mk (by first | (first | omega | (simp only [awO] at *; omega) | (simp; omega)) | (constructor <;> (first | omega | (simp only [awO] at *; omega) | (simp; omega)))) ?_); refine Elem.recs hgd (by first | (rw [dscv_eq]; exact ⟨rfl, rfl⟩) | exact ⟨rfl, rfl⟩) ?_; simp only [dscv_eq, hpl, d8, d9, d10, aw21, awH, ↓awD, awP, Nat.reduceLeDiff, Nat.reduceEqDiff, Nat.reduceAdd, Int.reduceLT, Int.reduceLE, Int.reduceEq]))
  have hu : canF B r v = .mk v.kind v.n v.s [] [] v.ok := by
    have e8 : decide (v.kind = 8) = false := by rw [hkk]; exact d8
    have e9 : decide (v.kind = 9) = false := by rw [hkk]; exact d9
    have e10 : decide (v.kind = 10) = false := by rw [hkk]; exact d10
    simp only [canF, e8, e9, e10, cond_false]
  have gE : ∀ (a b c x : AObj) (J : List AObj), (h ++ [a] ++ [b] ++ [c] ++ [x] ++ J)[h.length + 1]? = some b := fun a b c x J => by
    rw [List.append_assoc, List.append_assoc, List.append_assoc, List.append_assoc, List.getElem?_append_right (by omega)]
    simp
  have gSS : ∀ (a b c e x : AObj), ((h ++ [a] ++ [b] ++ [c] ++ [e]).set (h.length + 1) x)[h.length + 1]? = some x := fun a b c e x => by rw [List.getElem?_set_self (by simp)]
  have gST : ∀ (a b c e x : AObj), (h ++ [a] ++ [b] ++ [c] ++ [e]).set (h.length + 1) x = h ++ [a] ++ [x] ++ [c] ++ [e] := fun a b c e x => by
    rw [List.append_assoc, List.append_assoc, List.append_assoc, List.set_append_right _ _ (by omega), show h.length + 1 - h.length = 1 by omega]
    simp
  simp only [gST, gE, gSS, awH, ↓awD, awP, Nat.reduceLeDiff, Nat.reduceEqDiff, Nat.reduceAdd, Int.reduceLT, Int.reduceLE, Int.reduceEq]
  (try simp only [hpl, awH, ↓awD, awP, Nat.reduceLeDiff, Nat.reduceEqDiff, Nat.reduceAdd, Int.reduceLT, Int.reduceLE, Int.reduceEq])
  (try refine Need.mk (by simp) ?_)
  (try simp only [gST, gE, gSS, awH, ↓awD, awP, Nat.reduceLeDiff, Nat.reduceEqDiff, Nat.reduceAdd, Int.reduceLT, Int.reduceLE, Int.reduceEq])
  rw [hu]
  exact Fin.all (by simp) ⟨_, _, _, rfl, by simp only [List.append_assoc]; rfl, .inr ⟨.full, rfl⟩, .inr ⟨.full, rfl⟩, apart_full⟩

theorem canC_none {B : Int → Val → Val} {v : Val} {fs : List Fld} (h : ∀ g, g ∈ fs → g.name ≠ v.s) : canC B v fs = [] := by
  have : (fs.reverse.find? fun f => decide (f.name = v.s)) = none := by
    rw [List.find?_eq_none]; intro g hg; have := h g (List.mem_reverse.1 hg); simpa using this
  simp only [canC, this]
theorem dist_take {fs : List Fld} (hD : Dist fs) {i : Nat} {f : Fld} (ha : fs[i]? = some f) : ∀ g, g ∈ fs.take i → g.name ≠ f.name := by
  intro g hg he
  obtain ⟨j, hj⟩ := List.mem_iff_getElem?.1 hg
  rw [List.getElem?_take] at hj
  split at hj
  · rename_i hji
    have h1 : (fs.map (·.name))[j]? = some f.name := by rw [List.getElem?_map, hj, ← he]; rfl
    have h2 : (fs.map (·.name))[i]? = some f.name := by rw [List.getElem?_map, ha]; rfl
    have := (List.getElem?_inj (by have := (List.getElem?_eq_some_iff.1 h1).1; exact this) hD).1 (h1.trans h2.symm)
    omega
  · cases hj
set_option maxHeartbeats 8000000 in
theorem at_raw10 (d : List Dsc) (hBD : ∀ r, r ∈ d → BD (2 ^ 30) r) (n : Nat) (r : Dsc) (hr : d[n]? = some r) (v : Val) (B : Int → Val → Val) (hv : mxV v ≤ 2 ^ 48) (hkk : v.kind = r.kind) (hk : r.kind = 10) (hD : Dist r.fields)
    (hne : ∀ f, f ∈ r.fields → f.name = v.s → v.l ≠ []) (hB : ∀ f, f ∈ r.fields → f.name = v.s → ∀ x, v.l.head? = some x → ∀ h, EvR E0 21 [dscl d, i64 f.t, valv x] h (valv (B f.t x))) (h : List AObj) :
    Ev E0 21 [dscl d, i64 n, valv v] h (RecP h (canF B r v)) := by
  have hm := hBD r (List.mem_of_getElem? hr)
  have hV := mxV_le v
  have l1 := mxB_len v.names
  have l3 := mxVs_len v.l
  have hnl : n < d.length := (List.getElem?_eq_some_iff.1 hr).1
  have hgd := map_get dscv d n r hr
  have hpl := hpl h
  have hfl : r.parts.length + r.adds.length ≤ 2 ^ 40 := by have := hm.2.2.2.2.1; have := hm.2.2.2.2.2.1; omega
  have hf := fun h => rfields_ev r hfl h
  have hfl2 : r.fields.length < 2 ^ 60 := by simp only [Dsc.fields, List.length_append]; omega
  simp only [dscv_eq] at hf
  refine ev_of (fn := Tryz.f21) (hs := [(11,1016),(11,8),(12,1030),(12,15),(14,1016),(14,8),(15,1034),(15,17),(20,1024),(20,12),(27,1028),(27,14)]) Tryz.func21 c21 (by simp) fun hcl => ?_
  have d8 : decide (r.kind = 8) = false := by rw [hk]; rfl
  have d9 : decide (r.kind = 9) = false := by rw [hk]; rfl
  have d10 : decide (r.kind = 10) = true := decide_eq_true hk
  simp only [ac21, valv_eq, awH, ↓awD, awP, Nat.reduceLeDiff, Nat.reduceEqDiff, Nat.reduceAdd, Int.reduceLT, Int.reduceLE, Int.reduceEq]
  repeat' (first | ((try refine Need.mk (by first | (first | omega | (simp only [awO] at *; omega) | (simp; omega)) | (constructor <;> (first | omega | (simp only [awO] at *; omega) | (simp; omega)))) ?_); refine Elem.recs hgd (by first | (rw [dscv_eq]; exact ⟨rfl, rfl⟩) | exact ⟨rfl, rfl⟩) ?_; simp only [dscv_eq, hpl, d8, d9, d10, aw21, awH, ↓awD, awP, Nat.reduceLeDiff, Nat.reduceEqDiff, Nat.reduceAdd, Int.reduceLT, Int.reduceLE, Int.reduceEq]))
  ((first | refine EvF.ret (hf _) ?_ | refine EvRF.ret (hf _) ?_); simp only [hpl, d8, aw21, awH, ↓awD, awP, Nat.reduceLeDiff, Nat.reduceEqDiff, Nat.reduceAdd, Int.reduceLT, Int.reduceLE, Int.reduceEq])
  generalize hO : h ++ [AObj.cells [i64 v.kind, i64 v.n, str v.s, strl v.names, vall v.l]] ++ [AObj.cells [i64 0, i64 0, str ⟨#[]⟩, .sl .full [], .sl .full []]] ++ [AObj.cells [i64 r.kind, boolv r.ext, rgl r.set, i64 r.lo, i64 r.hi, str r.frm, strl r.names, strl r.more, fldl r.parts, fldl r.adds, intl r.order, i64 r.elem]] = G
  obtain ⟨hG, hGe, gV, gS, gD, gO, sO, sS⟩ := hO ▸ hp4 h (AObj.cells [i64 v.kind, i64 v.n, str v.s, strl v.names, vall v.l]) (AObj.cells [i64 0, i64 0, str ⟨#[]⟩, .sl .full [], .sl .full []]) (AObj.cells [i64 r.kind, boolv r.ext, rgl r.set, i64 r.lo, i64 r.hi, str r.frm, strl r.names, strl r.more, fldl r.parts, fldl r.adds, intl r.order, i64 r.elem])
  refine LoopF.list r.fields hfl2 (γ := AV × List AObj) (fun i g => ⟨[(0, dscl d), (5, .ref h.length 0), (6, .ref (h.length + 1) 0), (8, .ref (h.length + 3) 0), (13, fldl r.fields), (14, i64 i)], G ++ [.cells [i64 v.kind, i64 v.n, str v.s, .sl .full [], g.1]] ++ g.2⟩)
    (fun i g => SlotOk (G ++ [.cells [i64 v.kind, i64 v.n, str v.s, .sl .full [], g.1]] ++ g.2) (h.length + 4) z5 ((canC B v (r.fields.take i)).map valv) g.1) (.sl .full [], []) (by simp only [List.take_zero]; exact .inl ⟨rfl, rfl⟩) (weak_of (by simp) (by simp [look])) ?_ ?_
  · rintro i f ⟨sL, J⟩ ha hL hi e1 w3
    simp only at hL
    have oL := hL.one
    have hga := map_get fldv r.fields i f ha
    have hfm := List.mem_of_getElem? ha
    have hP : ∀ x, (G ++ [x]).length = h.length + 4 := fun x => by simp [hG]
    simp only [e1, oL, w3, gV, gS, gD, gO, sO, awH, ↓awD, awP, Nat.reduceLeDiff, Nat.reduceEqDiff, Nat.reduceAdd, Int.reduceLT, Int.reduceLE, Int.reduceEq]
    cases hfn : decide (f.name = v.s)
    · repeat' (first | ((try refine Need.mk (by first | (first | omega | (simp only [awO] at *; omega) | (simp; omega)) | (constructor <;> (first | omega | (simp only [awO] at *; omega) | (simp; omega)))) ?_); refine Elem.recs hga (by first | (rw [fldv_eq]; exact ⟨rfl, rfl⟩) | exact ⟨rfl, rfl⟩) ?_; simp only [fldv_eq, oL, w3, hfn, gV, gS, gD, gO, sO, aw21, awH, ↓awD, awP, Nat.reduceLeDiff, Nat.reduceEqDiff, Nat.reduceAdd, Int.reduceLT, Int.reduceLE, Int.reduceEq]))
      exact ⟨(i + 1, sL, J), ⟨hi, by simp only; rw [canC_skip B ha (of_decide_eq_false hfn)]; exact hL⟩, by simp only; omega, weak_of rfl (by simp [look])⟩
    · have hn := of_decide_eq_true hfn
      obtain ⟨y, ys, hvl⟩ : ∃ y ys, v.l = y :: ys := by
        cases hvl : v.l with
        | nil => exact absurd hvl (hne f hfm hn)
        | cons y ys => exact ⟨y, ys, rfl⟩
      have hgy : (v.l.map valv)[0]? = some (valv y) := by rw [hvl]; rfl
      have hll : 0 < v.l.length := by rw [hvl]; simp
      have hBy := fun h => hB f hfm hn y (by rw [hvl]; rfl) h
      simp only [valv_eq] at hBy
      rw [canC_none (fun g hg => by rw [← hn]; exact dist_take hD ha g hg)] at hL
      repeat' (first | ((try refine Need.mk (by first | (first | omega | (simp only [awO] at *; omega) | (simp; omega)) | (constructor <;> (first | omega | (simp only [awO] at *; omega) | (simp; omega)))) ?_); refine Elem.recs hga (by first | (rw [fldv_eq]; exact ⟨rfl, rfl⟩) | exact ⟨rfl, rfl⟩) ?_; simp only [fldv_eq, oL, w3, hfn, gV, gS, gD, gO, sO, aw21, awH, ↓awD, awP, Nat.reduceLeDiff, Nat.reduceEqDiff, Nat.reduceAdd, Int.reduceLT, Int.reduceLE, Int.reduceEq]) | ((try refine Need.mk (by first | (first | omega | (simp only [awO] at *; omega) | (simp; omega)) | (constructor <;> (first | omega | (simp only [awO] at *; omega) | (simp; omega)))) ?_); refine Elem.recs hgy (by first | (rw [valv_eq]; exact ⟨rfl, rfl⟩) | exact ⟨rfl, rfl⟩) ?_; simp only [valv_eq, oL, w3, hfn, gV, gS, gD, gO, sO, aw21, awH, ↓awD, awP, Nat.reduceLeDiff, Nat.reduceEqDiff, Nat.reduceAdd, Int.reduceLT, Int.reduceLE, Int.reduceEq]) | ((first | refine EvF.ret (hBy _) ?_ | refine EvRF.ret (hBy _) ?_); simp only [oL, w3, gV, gS, gD, gO, sO, aw21, awH, ↓awD, awP, Nat.reduceLeDiff, Nat.reduceEqDiff, Nat.reduceAdd, Int.reduceLT, Int.reduceLE, Int.reduceEq]) | (refine Need.mk (by simp only [litParts, List.mem_cons, List.not_mem_nil, or_false, forall_eq_or_imp, forall_eq]; refine ⟨by decide, by decide, by decide, ?_⟩; repeat' (first | exact ⟨rfl, rfl, rfl⟩ | rfl | constructor)) ?_; simp only [oL, w3, gV, gS, gD, gO, sO, awH, ↓awD, awP, Nat.reduceLeDiff, Nat.reduceEqDiff, Nat.reduceAdd, Int.reduceLT, Int.reduceLE, Int.reduceEq]))
      refine AppO.use (z := z5) (lo := h.length + 4) (J := J) (es := []) rfl (hP _) hL (by decide) rfl (fit_vals []) (fit_val _) (one_val _) rfl (strip_val _) (by simp only [List.length_cons, List.length_nil]; omega) (by simp only [List.length_cons, List.length_nil]; omega) (by simp) fun J1 sL1 hL1 hF1 hH1 => ?_
      have oL1 := hL1.one
      simp only [oL1, w3, gV, gS, gD, gO, sO, awH, ↓awD, awP, Nat.reduceLeDiff, Nat.reduceEqDiff, Nat.reduceAdd, Int.reduceLT, Int.reduceLE, Int.reduceEq]
      refine ⟨(i + 1, sL1, J1), ⟨hi, ?_⟩, by simp only; omega, weak_of rfl (by simp [look])⟩
      simp only
      rw [canC_succ B ha hn (by rw [hvl]; rfl), List.map_cons, List.map_nil, valv_eq (B f.t y)]
      exact hL1.swap (hP _) (hP _)
  · rintro ⟨sL, J⟩ hL e1
    simp only at hL
    have oL := hL.one
    rw [List.take_length] at hL
    simp only [e1, oL, gV, gS, gD, gO, sO, sS, List.length_cons, List.length_nil, awH, ↓awD, awP, Nat.reduceLeDiff, Nat.reduceEqDiff, Nat.reduceAdd, Int.reduceLT, Int.reduceLE, Int.reduceEq]
    have hu : canF B r v = .mk v.kind v.n v.s [] (canC B v r.fields) v.ok := by have h10 : v.kind = 10 := hkk.trans hk; simp [canF, h10]
    have gE : ∀ (a b c x : AObj) (J : List AObj), (h ++ [a] ++ [b] ++ [c] ++ [x] ++ J)[h.length + 1]? = some b := fun a b c x J => by
      rw [List.append_assoc, List.append_assoc, List.append_assoc, List.append_assoc, List.getElem?_append_right (by omega)]
      simp
    have gSS : ∀ (a b c e x : AObj), ((h ++ [a] ++ [b] ++ [c] ++ [e]).set (h.length + 1) x)[h.length + 1]? = some x := fun a b c e x => by rw [List.getElem?_set_self (by simp)]
    simp only [gE, gSS, oL, awH, ↓awD, awP, Nat.reduceLeDiff, Nat.reduceEqDiff, Nat.reduceAdd, Int.reduceLT, Int.reduceLE, Int.reduceEq]
    (try refine Need.mk (by simp) ?_)
    (try simp only [gE, gSS, oL, awH, ↓awD, awP, Nat.reduceLeDiff, Nat.reduceEqDiff, Nat.reduceAdd, Int.reduceLT, Int.reduceLE, Int.reduceEq])
    rw [hu]
    exact Fin.all (by simp only [List.length_append]; omega) ⟨_, sL, _, rfl, by simp only [List.append_assoc]; rfl, .inr ⟨.full, rfl⟩, .inl (SlotOk.lower (SlotOk.swap hL (by simp [hG]) (by simp)) (by omega)), apart_full⟩

def ac12 : ACode := (.seq (.region [oq 3 (.box (tq 1)), oq 4 (.alloc [zi, zi, zs, zn, zn]), oq 5 (.move (ci 0))]) (.seq (.region [oq 7 (qm 0), oq 8 (qs 5 3), oq 9 (.call (.func 20) [((tq 7), false), ((tq 8), false)]), oq 6 (qm 9)]) (.seq (.seq (.region [oq 10 (qm 6), oq 11 (.bin .neq (tq 10) (ci 0))]) (.cond (tq 11) (.seq (.region [oq 12 (.build [zi, zi, zs, zn, zn] []), oq 13 (qm 6), oz (.store 5 (tq 4) (tq 12)), oq 5 (qm 13)]) .ret) .skip)) (.seq (.region [oq 14 (qm 0), oq 15 (qs 5 3), oq 16 (.call (.func 21) [((tq 14), false), ((ci 0), false), ((tq 15), false)]), oz (.store 5 (tq 4) (tq 16)), oq 5 (.move (ci 0))]) .ret))))
theorem c12 : cfn E0.P [] Tryz.f12 = some (ac12, [(.cell 4 (some 5)), (.tmp 5)], 17) := by kernel_rfl

theorem rec_ev {f : FuncId} {args : List AV} {h : List AObj} {u : Val} (h0 : Ev E0 f args h (RecP h u)) : EvR E0 f args h (valv u) := by
  refine Ev.drop (by rw [valv_eq]; simp only [AV.under, unders, und_strs, und_vals, Bool.and_self]) ?_
  rw [valv_eq u]
  refine Ev.frz1 (Ev.frz1 (h0.mono ?_))
  rintro r h' ⟨sN, sL, J, rfl, hJ, hN, hL, hA⟩
  refine frz_or (j := 3) (s := sN) rfl hN (fit_strs _) (one_strs _) rfl hJ fun J' hF => ?_
  refine frz_or (j := 4) (s := sL) rfl (hL.imp (fun h => h.frm hF hA.symm) id) (fit_vals _) (one_vals _) rfl rfl fun J2 _ => ?_
  exact ⟨rfl, J2, rfl⟩
theorem at_flat (d : List Dsc) (hd : ∀ r, r ∈ d → BD (2 ^ 30) r) (t : Int) (ht : inT d t) (v : Val) (C : Int → Val → Val) (hv : mxV v ≤ 2 ^ 48) (hkk : v.kind = (rowAt d t).kind) (hp : parted (rowAt d t).kind = false) (h : List AObj) :
    EvR E0 21 [dscl d, i64 t, valv v] h (valv (canF C (rowAt d t) v)) := by
  have := rec_ev (at_raw0 d hd t.toNat (rowAt d t) (rowAt_get ht) v C hv hkk hp h)
  rw [inT_nat ht] at this
  exact this
theorem at_all {d : List Dsc} (hd : ∀ r, r ∈ d → BD (2 ^ 30) r) (hri : rightT d = true) : ∀ (room : Nat), room ≤ 40 → ∀ (t : Int) (v : Val), inT d t → mxV v ≤ 2 ^ 48 → szV v ≤ 2 ^ 40 → hasV d room t v = true →
    ∀ h, EvR E0 21 [dscl d, i64 t, valv v] h (valv (canV d room t v)) := by
  have ho := (tab_ok hri).1
  intro room
  induction room with
  | zero =>
    intro _ t v ht hv hs hh h
    obtain ⟨h1, h2, h3, h4⟩ := hasF_kind hh
    exact at_flat d hd t ht v (fun _ x => x) hv h1 (h2 rfl) h
  | succ k ih =>
    intro hk40 t v ht hv hs hh h
    have ih := ih (by omega)
    have hr := rowAt_get ht
    have hm := List.mem_of_getElem? hr
    obtain ⟨h1, h2, h3, h4⟩ := hasF_kind hh
    have hvl := szVs_len v.l
    have hsv := szV_eq v
    have hro := ho.rows _ hm
    have e : canV d (k + 1) t v = canF (canV d k) (rowAt d t) v := rfl
    rw [e]
    cases hp : parted (rowAt d t).kind
    · exact at_flat d hd t ht v (canV d k) hv h1 hp h
    have hp0 := hp
    simp only [parted, Bool.or_eq_true, decide_eq_true_eq] at hp
    have ha := inT_nat ht
    rcases hp with (hk | hk) | hk
    · simp only [kindF, hk, Int.reduceEq, decide_true, decide_false, cond_true, cond_false, seqF, Bool.and_eq_true, decide_eq_true_eq] at h4
      have := rec_ev (at_raw8 d hd t.toNat (rowAt d t) hr v (canV d k) hv (by omega) h1 hk h4.1 (((rows_ok (by simp only [rightT, Bool.and_eq_true] at hri; exact hri.1)).2.2 _ hm).1) (fun f hf x hx h => ?_) h)
      · rw [ha] at this
        exact this
      unfold pick at hx
      split at hx
      · rename_i hge
        rcases idx_find (fun x => decide (f.name = x)) v.names 0 with ⟨e0, e2⟩ | ⟨j, a, e0, e1, e2⟩
        · rw [e2] at hge; omega
        · rw [e2, Nat.zero_add, Int.toNat_natCast] at hx
          have ha : f.name = a := by have := List.find?_some e1; simpa using this
          obtain ⟨f', hf', hn', x', hx', hB'⟩ := seqW_get _ _ _ _ h4.1 h4.2 j a e0
          rw [hx] at hx'; cases hx'
          have := ho.once _ hm f f' hf hf' (by rw [hn', ha])
          subst this
          have hxm := List.mem_of_getElem? hx
          exact ih f.t x (hro.1 f hf) (by have := hasV_mem hxm; omega) (by have := szVs_mem hxm; omega) hB' h
      · have hxm : x ∈ f.dfl := by
          cases hdf : f.dfl with
          | nil => rw [hdf] at hx; cases hx
          | cons y ys => rw [hdf] at hx; cases hx; exact List.mem_cons_self
        obtain ⟨hs1, hs2⟩ := ho.dfl _ hm f hf x hxm
        have hbx := (hasF_kind (by rw [hasV_simple hs1 40 0] at hs2; exact hs2)).2.2.1
        have hpx : parted x.kind = false := by
          simp only [simpK, Bool.or_eq_true, decide_eq_true_eq] at hs1
          simp only [parted, Bool.or_eq_false_iff, decide_eq_false_iff_not]; omega
        have hBf := (hd _ hm).fields f hf
        exact ih f.t x (hro.1 f hf) (by have := mxVs_mem hxm; have := hBf.2; omega) (by rw [szV_nil (bare_parts hbx hpx)]; omega) (by rw [hasV_simple hs1 k 40]; exact hs2) h
    · simp only [kindF, hk, Int.reduceEq, decide_true, decide_false, cond_true, cond_false, Bool.and_eq_true, Bool.not_eq_true', List.any_eq_false, Bool.not_eq_false] at h4
      have := rec_ev (at_raw9 d hd t.toNat (rowAt d t) hr v (canV d k) hv (by omega) h1 hk (fun x hx h => ih _ x hro.2 (by have := hasV_mem hx; omega) (by have := szVs_mem hx; omega) (by simpa using h4.2 x hx) h) h)
      rw [ha] at this
      exact this
    · simp only [kindF, hk, Int.reduceEq, decide_true, decide_false, cond_true, cond_false, choF] at h4
      split at h4
      · cases h4
      · rename_i f' hff
        simp only [Bool.and_eq_true, decide_eq_true_eq] at h4
        have hf'm := List.mem_of_find?_eq_some hff
        have hf'n : f'.name = v.s := by have := List.find?_some hff; simpa using this
        have := rec_ev (at_raw10 d hd t.toNat (rowAt d t) hr v (canV d k) hv h1 hk (tab_dist hri _ hm) (fun f hf hn hnil => by rw [hnil] at h4; simp at h4) (fun f hf hn x hx h => ?_) h)
        · rw [ha] at this
          exact this
        have := ho.once _ hm f f' hf hf'm (by rw [hn, hf'n])
        subst this
        cases hvv : v.l with
        | nil => rw [hvv] at hx; cases hx
        | cons y ys =>
          rw [hvv] at hx h4; cases hx
          have hxm : x ∈ v.l := by rw [hvv]; exact List.mem_cons_self
          exact ih f.t x (hro.1 f hf) (by have := hasV_mem hxm; omega) (by have := szVs_mem hxm; omega) (by simpa [oneF] using h4.2) h
theorem rcanon_ev (d : List Dsc) (hd : ∀ r, r ∈ d → BD (2 ^ 30) r) (hl : d.length < 2 ^ 30) (v : Val) (hv : mxV v ≤ 2 ^ 48) (hz : szV v ≤ 2 ^ 40) (h : List AObj) : EvR E0 12 [dscl d, valv v] h (.tup [valv (canonT d v), i64 (checkT d v)]) := by
  have hpl := hpl h
  have hc := fun h => rcheck_ev d hd hl v hv h
  unfold canonT
  simp only [valv_eq] at hc
  cases hcc : decide (checkT d v = 0)
  · show EvR E0 12 [dscl d, valv v] h (.tup (lows [.agg [i64 0, i64 0, str ⟨#[]⟩, .sl .full [], .sl .full []], i64 (checkT d v)]))
    refine EvR.lowT ?_
    refine ev_of (fn := Tryz.f12) (hs := []) Tryz.func12 c12 (by simp) fun hcl => ?_
    simp only [ac12, valv_eq, hpl, awH, ↓awD, awP, Nat.reduceLeDiff, Nat.reduceEqDiff, Nat.reduceAdd, Int.reduceLT, Int.reduceLE, Int.reduceEq]
    repeat' (first | ((first | refine EvF.ret (hc _) ?_ | refine EvRF.ret (hc _) ?_); simp only [hcc, hpl, aw21, awH, ↓awD, awP, Nat.reduceLeDiff, Nat.reduceEqDiff, Nat.reduceAdd, Int.reduceLT, Int.reduceLE, Int.reduceEq]))
    exact Fin.end hcl (by first | rfl | (simp only [AV.under, unders, und_val, und_vals, und_strs, und_ints, und_rgs, und_flds, und_dsc, und_dscs, Bool.and_self, Bool.and_true, Bool.true_and])) (by first | rfl | exact (List.append_nil _).symm | (simp only [List.append_assoc]; rfl)) ⟨rfl, rfl⟩
  · have hc0 := of_decide_eq_true hcc
    obtain ⟨h1, h2, h3⟩ := check0 hc0
    obtain ⟨hok, hpos⟩ := tab_ok h1
    have hcn := fun h => at_all hd h1 40 (Nat.le_refl _) 0 v ⟨Int.le_refl _, by omega⟩ hv hz h3 h
    simp only [valv_eq] at hcn
    refine ev_of (fn := Tryz.f12) (hs := []) Tryz.func12 c12 (by simp) fun hcl => ?_
    simp only [cond_true, ac12, valv_eq, hpl, awH, ↓awD, awP, Nat.reduceLeDiff, Nat.reduceEqDiff, Nat.reduceAdd, Int.reduceLT, Int.reduceLE, Int.reduceEq]
    repeat' (first | ((first | refine EvF.ret (hc _) ?_ | refine EvRF.ret (hc _) ?_); simp only [hcc, hpl, aw21, awH, ↓awD, awP, Nat.reduceLeDiff, Nat.reduceEqDiff, Nat.reduceAdd, Int.reduceLT, Int.reduceLE, Int.reduceEq]) | ((first | refine EvF.ret (hcn _) ?_ | refine EvRF.ret (hcn _) ?_); simp only [hcc, hpl, aw21, awH, ↓awD, awP, Nat.reduceLeDiff, Nat.reduceEqDiff, Nat.reduceAdd, Int.reduceLT, Int.reduceLE, Int.reduceEq]))
    refine Fin.end hcl ?_ (by first | rfl | exact (List.append_nil _).symm | (simp only [List.append_assoc]; rfl)) ⟨?_, rfl⟩
    · simp only [AV.under, unders, und_vals, und_strs, Bool.and_self]
    · rw [hc0, valv_eq]

def ac3 : ACode := (.seq (.region [oq 4 (.box (tq 1)), oq 5 (.box (tq 2)), oq 6 (.move (cb false))]) (.seq (.region [oq 12 (.call (.func 8) []), oq 7 (qm 12)]) (.seq (.seq (.region [oq 13 (qm 0), oq 14 (.call (.func 9) [((tq 13), false)]), oq 15 (.un .not (tq 14)), oq 16 (qm 15), og 17 (qs 5 4) 16 false, og 18 (.call (.func 10) [((tq 17), false)]) 16 false, og 19 (.un .not (tq 18)) 16 false, oq 20 (.pick (tq 16) (cb true) (tq 19)), oq 21 (qm 20), og 22 (qs 5 5) 21 false, og 23 (.call (.func 10) [((tq 22), false)]) 21 false, og 24 (.un .not (tq 23)) 21 false, oq 25 (.pick (tq 21) (cb true) (tq 24))]) (.cond (tq 25) (.seq (.region [oq 26 (qm 7), oq 6 (qm 26)]) .ret) .skip)) (.seq (.region [oq 28 (qm 0), oq 29 (qs 5 4), oq 30 (.call (.func 11) [((tq 28), false), ((tq 29), false)]), oq 27 (qm 30), oq 31 (.extract (tq 27) 0), oq 32 (.extract (tq 27) 1), oq 8 (.alloc [zi, zi, zs, zn, zn]), oz (.store 5 (tq 8) (tq 31)), oq 9 (qm 32)]) (.seq (.region [oq 34 (qm 0), oq 35 (qs 5 4), oq 36 (.call (.func 12) [((tq 34), false), ((tq 35), false)]), oq 33 (qm 36), oq 37 (.extract (tq 33) 0), oq 38 (.extract (tq 33) 1), oq 10 (.alloc [zi, zi, zs, zn, zn]), oz (.store 5 (tq 10) (tq 37)), oq 11 (qm 38)]) (.seq (.draw [oq 39 (qm 7), oq 40 (qm 39), og 41 (qm 9) 40 true, og 42 (qm 11) 40 true, og 43 (.bin .eql (tq 41) (tq 42)) 40 true, oq 44 (.pick (tq 40) (tq 43) (cb false)), oq 45 (qm 44), og 46 (qs 5 8) 45 true, og 47 (qs 5 10) 45 true, og 48 (.call (.func 13) [((tq 46), false), ((tq 47), false)]) 45 true, oq 49 (.pick (tq 45) (tq 48) (cb false)), oq 50 (qm 49), og 51 (qs 5 4) 50 true, og 52 (qs 5 5) 50 true, og 53 (.call (.func 14) [((tq 51), false), ((tq 52), false)]) 50 true, og 54 (qs 5 4) 50 true, og 55 (qs 5 5) 50 true, og 56 (.call (.func 13) [((tq 54), false), ((tq 55), false)]) 50 true, og 57 (.eqB false (tq 53) (tq 56)) 50 true, oq 58 (.pick (tq 50) (tq 57) (cb false)), oq 6 (qm 58)]) .ret))))))
theorem c3 : cfn E0.P [] Tryz.f3 = some (ac3, [(.tmp 6)], 59) := by kernel_rfl

set_option maxHeartbeats 4000000 in
theorem app4 (h : List AObj) (a b c e : AObj) : ∃ J, h ++ [a] ++ [b] ++ [c] ++ [e] = h ++ J := ⟨[a] ++ ([b] ++ ([c] ++ [e])), by simp⟩
theorem canons_ev (d : List Dsc) (v w : Val) (hw : Wide d) (hv : mxV v ≤ 2 ^ 47) (hu : mxV w ≤ 2 ^ 47) (h : List AObj) : EvR E0 3 [dscl d, valv v, valv w] h (boolv true) := by
  refine Ev.drop rfl ?_
  refine ev_of (fn := Tryz.f3) (hs := []) Tryz.func3 c3 (by simp) fun hcl => ?_
  have haw := fun h => awake_ev h
  have hsm := fun h => small_ev d hw h
  have hfe := fun h => few1_ev v hv h
  have hfw := fun h => few1_ev w hu h
  simp only [valv_eq] at hfe hfw
  have hpl := hpl h
  cases hss : smallT d
  · rw [hss] at hsm
    simp only [ac3, valv_eq, awH, ↓awD, awP, Nat.reduceLeDiff, Nat.reduceEqDiff, Nat.reduceAdd, Int.reduceLT, Int.reduceLE, Int.reduceEq]
    ((first | refine EvF.ret (haw _) ?_ | refine EvRF.ret (haw _) ?_); simp only [hpl, aw21, awH, ↓awD, awP, Nat.reduceLeDiff, Nat.reduceEqDiff, Nat.reduceAdd, Int.reduceLT, Int.reduceLE, Int.reduceEq])
    ((first | refine EvF.ret (hsm _) ?_ | refine EvRF.ret (hsm _) ?_); simp only [hpl, aw21, awH, ↓awD, awP, Nat.reduceLeDiff, Nat.reduceEqDiff, Nat.reduceAdd, Int.reduceLT, Int.reduceLE, Int.reduceEq])
    exact Fin.all (by simp) ⟨rfl, _, List.append_assoc ..⟩
  rw [hss] at hsm
  obtain ⟨hBD, hdl⟩ := wide_bd hw hss
  cases hff : fewT1 v
  · rw [hff] at hfe
    simp only [ac3, valv_eq, awH, ↓awD, awP, Nat.reduceLeDiff, Nat.reduceEqDiff, Nat.reduceAdd, Int.reduceLT, Int.reduceLE, Int.reduceEq]
    ((first | refine EvF.ret (haw _) ?_ | refine EvRF.ret (haw _) ?_); simp only [hpl, aw21, awH, ↓awD, awP, Nat.reduceLeDiff, Nat.reduceEqDiff, Nat.reduceAdd, Int.reduceLT, Int.reduceLE, Int.reduceEq])
    ((first | refine EvF.ret (hsm _) ?_ | refine EvRF.ret (hsm _) ?_); simp only [hpl, aw21, awH, ↓awD, awP, Nat.reduceLeDiff, Nat.reduceEqDiff, Nat.reduceAdd, Int.reduceLT, Int.reduceLE, Int.reduceEq])
    ((first | refine EvF.ret (hfe _) ?_ | refine EvRF.ret (hfe _) ?_); simp only [hpl, aw21, awH, ↓awD, awP, Nat.reduceLeDiff, Nat.reduceEqDiff, Nat.reduceAdd, Int.reduceLT, Int.reduceLE, Int.reduceEq])
    exact Fin.all (by simp) ⟨rfl, _, List.append_assoc ..⟩
  rw [hff] at hfe
  cases hfg : fewT1 w
  · rw [hfg] at hfw
    simp only [ac3, valv_eq, awH, ↓awD, awP, Nat.reduceLeDiff, Nat.reduceEqDiff, Nat.reduceAdd, Int.reduceLT, Int.reduceLE, Int.reduceEq]
    ((first | refine EvF.ret (haw _) ?_ | refine EvRF.ret (haw _) ?_); simp only [hpl, aw21, awH, ↓awD, awP, Nat.reduceLeDiff, Nat.reduceEqDiff, Nat.reduceAdd, Int.reduceLT, Int.reduceLE, Int.reduceEq])
    ((first | refine EvF.ret (hsm _) ?_ | refine EvRF.ret (hsm _) ?_); simp only [hpl, aw21, awH, ↓awD, awP, Nat.reduceLeDiff, Nat.reduceEqDiff, Nat.reduceAdd, Int.reduceLT, Int.reduceLE, Int.reduceEq])
    ((first | refine EvF.ret (hfe _) ?_ | refine EvRF.ret (hfe _) ?_); simp only [hpl, aw21, awH, ↓awD, awP, Nat.reduceLeDiff, Nat.reduceEqDiff, Nat.reduceAdd, Int.reduceLT, Int.reduceLE, Int.reduceEq])
    ((first | refine EvF.ret (hfw _) ?_ | refine EvRF.ret (hfw _) ?_); simp only [hpl, aw21, awH, ↓awD, awP, Nat.reduceLeDiff, Nat.reduceEqDiff, Nat.reduceAdd, Int.reduceLT, Int.reduceLE, Int.reduceEq])
    exact Fin.all (by simp) ⟨rfl, _, List.append_assoc ..⟩
  rw [hfg] at hfw
  obtain ⟨hnl, hll, hsz⟩ := few_facts hv hff
  have hcn := fun h => canon_ev d hBD hdl v (by omega) (by omega) h
  have hrc := fun h => rcanon_ev d hBD hdl v (by omega) (by omega) h
  have hma : mxV (canonT d v) ≤ 2 ^ 48 := by
    cases hcc : decide (checkT d v = 0)
    · rw [once_no (of_decide_eq_false hcc)]; decide
    · have e : canonT d v = canV d 40 0 v := by simp only [canonT, of_decide_eq_true hcc, decide_true, cond_true]
      rw [e]; exact mx_can hBD 40 0 v hv
  generalize canonT d v = a at *
  have hsame := fun h => rsame_same a a hma hma h
  rw [eqV_iff.2 rfl] at hsame
  have hs1 := fun h => member_same_ev v w (by omega) (by omega) h
  have hs2 := fun h => rsame_same v w (by omega) (by omega) h
  simp only [valv_eq] at hcn hrc hsame hs1 hs2
  have hbb : ∀ b : Bool, (b == b) = true := fun b => by cases b <;> rfl
  have hxx : ∀ b : Bool, (b ^^ b) = false := fun b => by cases b <;> rfl
  simp only [ac3, valv_eq, awH, ↓awD, awP, Nat.reduceLeDiff, Nat.reduceEqDiff, Nat.reduceAdd, Int.reduceLT, Int.reduceLE, Int.reduceEq]
  ((first | refine EvF.ret (haw _) ?_ | refine EvRF.ret (haw _) ?_); simp only [hpl, aw21, awH, ↓awD, awP, Nat.reduceLeDiff, Nat.reduceEqDiff, Nat.reduceAdd, Int.reduceLT, Int.reduceLE, Int.reduceEq])
  ((first | refine EvF.ret (hsm _) ?_ | refine EvRF.ret (hsm _) ?_); simp only [hpl, aw21, awH, ↓awD, awP, Nat.reduceLeDiff, Nat.reduceEqDiff, Nat.reduceAdd, Int.reduceLT, Int.reduceLE, Int.reduceEq])
  ((first | refine EvF.ret (hfe _) ?_ | refine EvRF.ret (hfe _) ?_); simp only [hpl, aw21, awH, ↓awD, awP, Nat.reduceLeDiff, Nat.reduceEqDiff, Nat.reduceAdd, Int.reduceLT, Int.reduceLE, Int.reduceEq])
  ((first | refine EvF.ret (hfw _) ?_ | refine EvRF.ret (hfw _) ?_); simp only [hpl, aw21, awH, ↓awD, awP, Nat.reduceLeDiff, Nat.reduceEqDiff, Nat.reduceAdd, Int.reduceLT, Int.reduceLE, Int.reduceEq])
  repeat' (first | ((first | refine EvF.ret (hcn _) ?_ | refine EvRF.ret (hcn _) ?_); simp only [hpl, aw21, awH, ↓awD, awP, Nat.reduceLeDiff, Nat.reduceEqDiff, Nat.reduceAdd, Int.reduceLT, Int.reduceLE, Int.reduceEq]) | ((first | refine EvF.ret (hrc _) ?_ | refine EvRF.ret (hrc _) ?_); simp only [hpl, aw21, awH, ↓awD, awP, Nat.reduceLeDiff, Nat.reduceEqDiff, Nat.reduceAdd, Int.reduceLT, Int.reduceLE, Int.reduceEq]) | ((first | refine EvF.ret (hsame _) ?_ | refine EvRF.ret (hsame _) ?_); simp only [hpl, aw21, awH, ↓awD, awP, Nat.reduceLeDiff, Nat.reduceEqDiff, Nat.reduceAdd, Int.reduceLT, Int.reduceLE, Int.reduceEq]) | ((first | refine EvF.ret (hs1 _) ?_ | refine EvRF.ret (hs1 _) ?_); simp only [hpl, aw21, awH, ↓awD, awP, Nat.reduceLeDiff, Nat.reduceEqDiff, Nat.reduceAdd, Int.reduceLT, Int.reduceLE, Int.reduceEq]) | ((first | refine EvF.ret (hs2 _) ?_ | refine EvRF.ret (hs2 _) ?_); simp only [hpl, aw21, awH, ↓awD, awP, Nat.reduceLeDiff, Nat.reduceEqDiff, Nat.reduceAdd, Int.reduceLT, Int.reduceLE, Int.reduceEq]))
  all_goals exact Fin.all (by simp) ⟨by simp [hbb], app4 ..⟩
end Go.Abs.Fr
