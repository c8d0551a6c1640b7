/- The document's values: a sequence. -/
import Derived.Test.YtloimemacnjpgaaGreatS15Rf8
import Derived.Test.YtloimemacnjpgaaGreatS15RwM
set_option linter.all false
namespace Go.Abs.Fr
open Go Go.Abs Go.Proofs
set_option linter.unusedSimpArgs false
set_option maxRecDepth 100000

def ac51 : ACode := (.seq (.region [oq 5 (.box (tq 1)), oq 6 (.box (tq 2)), oq 8 (.move (cb false))]) (.seq (.seq (.region [oq 12 (qf 3 6), oq 13 (ql 12), oq 14 (qn 13), oq 15 (qf 4 6), oq 16 (ql 15), oq 17 (qn 16), oq 18 (.bin .neq (tq 14) (tq 17)), oq 19 (qm 18), og 20 (qf 1 6) 19 false, og 21 (ql 20) 19 false, og 22 (.bin .neq (tq 21) (ci 0)) 19 false, oq 23 (.pick (tq 19) (cb true) (tq 22)), oq 24 (qm 23), og 25 (qf 2 6) 24 false, og 26 (ql 25) 24 false, og 27 (.bin .neq (tq 26) (.const (.string (⟨#[]⟩ : ByteArray)))) 24 false, oq 28 (.pick (tq 24) (cb true) (tq 27))]) (.cond (tq 28) (.seq (.region [oq 8 (.move (cb false))]) .ret) .skip)) (.seq (.region [oq 9 (.move (ci 0))]) (.seq (.region [oq 29 (qs 12 5), oq 30 (.call (.func 18) [((tq 29), false)]), oq 10 (qm 30)]) (.seq (.seq (.region [oq 11 (.move (ci 0))]) (.block 0 (.loop (.seq (.seq (.region [oq 31 (qm 11), oq 32 (qm 10), oq 33 (qn 32), oq 34 (.bin .lss (tq 31) (tq 33))]) (.cond (tq 34) .skip (.exit 0))) (.seq (.block 1 (.seq (.draw [oq 37 (qm 9), oq 38 (qf 3 6), oq 39 (ql 38), oq 40 (qn 39), oq 41 (.bin .lss (tq 37) (tq 40)), oq 42 (qm 41), og 43 (qf 3 6) 42 true, og 44 (ql 43) 42 true, og 45 (qm 9) 42 true, og 46 (qx 1 44 45) 42 true, og 47 (ql 46) 42 true, og 48 (qm 10) 42 true, og 49 (qm 11) 42 true, og 50 (qx 4 48 49) 42 true, og 51 (qf 0 50) 42 true, og 52 (ql 51) 42 true, og 53 (.bin .eql (tq 47) (tq 52)) 42 true, oq 54 (.pick (tq 42) (tq 53) (cb false))]) (.cond (tq 54) (.seq (.seq (.draw [oq 55 (qm 0), oq 56 (qm 10), oq 57 (qm 11), oq 58 (qx 4 56 57), oq 59 (qf 1 58), oq 60 (ql 59), oq 61 (qf 4 6), oq 62 (ql 61), oq 63 (qm 9), oq 64 (qx 5 62 63), oq 65 (qs 5 64), oq 66 (qm 3), oq 67 (.bin .sub (tq 66) (ci 1)), oq 68 (.call (.func 37) [((tq 55), false), ((tq 60), false), ((tq 65), false), ((tq 67), false)]), oq 69 (.un .not (tq 68))]) (.cond (tq 69) (.seq (.region [oq 8 (.move (cb false))]) .ret) .skip)) (.region [oq 70 (qm 9), oq 71 (.bin .add (tq 70) (ci 1)), oq 9 (qm 71)])) (.seq (.region [oq 72 (qm 11), oq 73 (qf 8 5), oq 74 (ql 73), oq 75 (qn 74), oq 76 (.bin .lss (tq 72) (tq 75)), oq 77 (qm 76), og 78 (qm 10) 77 true, og 79 (qm 11) 77 true, og 80 (qx 4 78 79) 77 true, og 81 (qf 2 80) 77 true, og 82 (ql 81) 77 true, og 83 (.un .not (tq 82)) 77 true, oq 84 (.pick (tq 77) (tq 83) (cb false)), oq 85 (qm 84), og 86 (qm 10) 85 true, og 87 (qm 11) 85 true, og 88 (qx 4 86 87) 85 true, og 89 (qf 3 88) 85 true, og 90 (ql 89) 85 true, og 91 (qn 90) 85 true, og 92 (.bin .eql (tq 91) (ci 0)) 85 true, oq 93 (.pick (tq 85) (tq 92) (cb false))]) (.cond (tq 93) (.seq (.region [oq 8 (.move (cb false))]) .ret) .skip))))) (.region [oq 35 (qm 11), oq 36 (.bin .add (tq 35) (ci 1)), oq 11 (qm 36)])))))) (.seq (.region [oq 94 (qm 9), oq 95 (qf 3 6), oq 96 (ql 95), oq 97 (qn 96), oq 98 (.bin .eql (tq 94) (tq 97)), oq 8 (qm 98)]) .ret))))))
theorem c51 : cfn E0.P [] Tryz.f51 = some (ac51, [(.tmp 8)], 99) := by kernel_rfl

set_option maxHeartbeats 4000000 in
theorem rseq_ev (d : List Dsc) (r : Dsc) (room : Nat) (hroom : room < 40) (v : Val) (B : Int → Val → Bool) (hm : BD (2 ^ 30) r) (hv : mxV v ≤ 2 ^ 48)
    (hB : ∀ f, f ∈ r.fields → ∀ x, x ∈ v.l → ∀ h, EvR E0 37 [dscl d, i64 f.t, valv x, i64 room] h (boolv (B f.t x))) (h : List AObj) :
    EvR E0 51 [dscl d, dscv r, valv v, i64 ((room + 1 : Nat) : Int)] h (boolv ((decide (v.n = 0) && decide (v.s = ⟨#[]⟩)) && seqF B r v)) := by
  have hV := mxV_le v
  have l1 := mxB_len v.names
  have l3 := mxVs_len v.l
  have hfl : r.parts.length + r.adds.length ≤ 2 ^ 40 := by have := hm.2.2.2.2.1; have := hm.2.2.2.2.2.1; omega
  have hf := fun h => rfields_ev r hfl h
  have hfl2 : r.fields.length < 2 ^ 60 := by simp only [Dsc.fields, List.length_append]; omega
  have hpl := hpl h
  have dl : decide ((v.names.length : Int) = (v.l.length : Int)) = decide (v.names.length = v.l.length) := by rw [decide_eq_decide]; omega
  have wr : IntKind.i64.wrap (((room + 1 : Nat) : Int) - 1) = (room : Int) := by rw [wrap_i64] <;> omega
  simp only [dscv_eq] at hf
  unfold seqF
  refine ev_of (fn := Tryz.f51) (hs := []) Tryz.func51 c51 (by simp) fun hcl => ?_
  cases k1 : decide (v.names.length = v.l.length)
  · rw [k1] at dl
    simp only [ac51, dscv_eq, valv_eq, hpl, dl, awH, ↓awD, awP, Nat.reduceLeDiff, Nat.reduceEqDiff, Nat.reduceAdd, Int.reduceLT, Int.reduceLE, Int.reduceEq]
    exact Fin.end hcl rfl (by first | rfl | exact (List.append_nil _).symm | (simp only [List.append_assoc]; rfl)) ⟨by simp, rfl⟩
  rw [k1] at dl
  have hle := of_decide_eq_true k1
  cases k2 : decide (v.n = 0)
  · simp only [ac51, dscv_eq, valv_eq, hpl, dl, k2, awH, ↓awD, awP, Nat.reduceLeDiff, Nat.reduceEqDiff, Nat.reduceAdd, Int.reduceLT, Int.reduceLE, Int.reduceEq]
    exact Fin.end hcl rfl (by first | rfl | exact (List.append_nil _).symm | (simp only [List.append_assoc]; rfl)) ⟨by simp, rfl⟩
  cases k3 : decide (v.s = ⟨#[]⟩)
  · simp only [ac51, dscv_eq, valv_eq, hpl, dl, k2, k3, awH, ↓awD, awP, Nat.reduceLeDiff, Nat.reduceEqDiff, Nat.reduceAdd, Int.reduceLT, Int.reduceLE, Int.reduceEq]
    exact Fin.end hcl rfl (by first | rfl | exact (List.append_nil _).symm | (simp only [List.append_assoc]; rfl)) ⟨by simp, rfl⟩
  rw [Bool.and_self, Bool.true_and, Bool.true_and]
  generalize hR : seqW B r.parts.length 0 r.fields v.names v.l = R
  simp only [ac51, dscv_eq, valv_eq, hpl, dl, k2, k3, awH, ↓awD, awP, Nat.reduceLeDiff, Nat.reduceEqDiff, Nat.reduceAdd, Int.reduceLT, Int.reduceLE, Int.reduceEq]
  ((first | refine EvF.ret (hf _) ?_ | refine EvRF.ret (hf _) ?_); simp only [hpl, k2, k3, aw21, awH, ↓awD, awP, Nat.reduceLeDiff, Nat.reduceEqDiff, Nat.reduceAdd, Int.reduceLT, Int.reduceLE, Int.reduceEq])
  generalize hO : h ++ [AObj.cells [i64 r.kind, boolv r.ext, rgl r.set, i64 r.lo, i64 r.hi, str r.frm, strl r.names, strl r.more, fldl r.parts, fldl r.adds, intl r.order, i64 r.elem]] ++ [AObj.cells [i64 v.kind, i64 v.n, str v.s, strl v.names, vall v.l]] = H at *
  have gA : H[h.length]? = some (AObj.cells [i64 r.kind, boolv r.ext, rgl r.set, i64 r.lo, i64 r.hi, str r.frm, strl r.names, strl r.more, fldl r.parts, fldl r.adds, intl r.order, i64 r.elem]) := by rw [← hO]; simp
  have gB : H[h.length + 1]? = some (AObj.cells [i64 v.kind, i64 v.n, str v.s, strl v.names, vall v.l]) := by rw [← hO]; simp
  refine LoopF.list r.fields hfl2 (γ := Nat) (fun i k => ⟨[(0, dscl d), (3, i64 ((room + 1 : Nat) : Int)), (5, .ref h.length 0), (6, .ref (h.length + 1) 0), (9, i64 k), (10, fldl r.fields), (11, i64 i)], H⟩) (fun i k => seqW B r.parts.length i (r.fields.drop i) (v.names.drop k) (v.l.drop k) = R ∧ k ≤ v.names.length) 0 ⟨by simpa using hR, Nat.zero_le _⟩ (weak_of (by first | rfl | exact hO) (by simp [look])) ?_ ?_
  · rintro i f k hf0 ⟨hv2, hk⟩ hi e1 w3
    rw [drop_get hf0] at hv2
    have hgf := map_get fldv r.fields i f hf0
    have wk : IntKind.i64.wrap ((k : Int) + 1) = ((k + 1 : Nat) : Int) := by rw [wrap_i64] <;> omega
    have di : decide ((i : Int) < (r.parts.length : Int)) = decide (i < r.parts.length) := by rw [decide_eq_decide]; omega
    have dd : decide ((f.dfl.length : Int) = 0) = decide (f.dfl.length = 0) := by rw [decide_eq_decide]; omega
    cases hkk : decide ((k : Int) < (v.names.length : Int))
    · have hkl : k = v.names.length := by rw [decide_eq_false_iff_not] at hkk; omega
      obtain ⟨k1', hk1⟩ : ∃ k1', k1' = k := ⟨_, rfl⟩
      rw [hkl, drop_len] at hv2
      simp only [seqW] at hv2
      rw [← drop_len v.names, ← hkl, ← hk1] at hv2
      rw [← hk1] at hk
      simp only [e1, gA, gB, hkk, w3, di, dd, awH, ↓awD, awP, Nat.reduceLeDiff, Nat.reduceEqDiff, Nat.reduceAdd, Int.reduceLT, Int.reduceLE, Int.reduceEq]
      rw [← hk1]
      cases h1 : decide (i < r.parts.length)
      · simp only [must, h1, Bool.false_and, Bool.not_false, Bool.true_and] at hv2
        simp only [h1, w3, awH, ↓awD, awP, Nat.reduceLeDiff, Nat.reduceEqDiff, Nat.reduceAdd, Int.reduceLT, Int.reduceLE, Int.reduceEq]
        exact ⟨(i + 1, k1'), ⟨hi, hv2, hk⟩, by simp only; omega, weak_of rfl (by simp [look])⟩
      · cases h2 : f.opt
        · cases h3 : decide (f.dfl.length = 0)
          · simp only [must, h1, h2, h3, Bool.and_false, Bool.not_false, Bool.true_and] at hv2
            simp only [h1, w3, awH, ↓awD, awP, Nat.reduceLeDiff, Nat.reduceEqDiff, Nat.reduceAdd, Int.reduceLT, Int.reduceLE, Int.reduceEq]
            repeat' (first | ((try refine Need.mk (by first | (first | omega | (simp only [awO] at *; omega) | (simp; omega)) | (constructor <;> (first | omega | (simp only [awO] at *; omega) | (simp; omega)))) ?_); refine Elem.recs hgf (by first | (rw [fldv_eq]; exact ⟨rfl, rfl⟩) | exact ⟨rfl, rfl⟩) ?_; simp only [fldv_eq, gA, gB, w3, dd, h2, h3, aw21, awH, ↓awD, awP, Nat.reduceLeDiff, Nat.reduceEqDiff, Nat.reduceAdd, Int.reduceLT, Int.reduceLE, Int.reduceEq]))
            exact ⟨(i + 1, k1'), ⟨hi, hv2, hk⟩, by simp only; omega, weak_of rfl (by simp [look])⟩
          · simp only [must, h1, h2, h3, Bool.and_self, Bool.not_false, Bool.not_true, Bool.false_and] at hv2
            subst hv2
            simp only [h1, w3, awH, ↓awD, awP, Nat.reduceLeDiff, Nat.reduceEqDiff, Nat.reduceAdd, Int.reduceLT, Int.reduceLE, Int.reduceEq]
            repeat' (first | ((try refine Need.mk (by first | (first | omega | (simp only [awO] at *; omega) | (simp; omega)) | (constructor <;> (first | omega | (simp only [awO] at *; omega) | (simp; omega)))) ?_); refine Elem.recs hgf (by first | (rw [fldv_eq]; exact ⟨rfl, rfl⟩) | exact ⟨rfl, rfl⟩) ?_; simp only [fldv_eq, gA, gB, w3, dd, h2, h3, aw21, awH, ↓awD, awP, Nat.reduceLeDiff, Nat.reduceEqDiff, Nat.reduceAdd, Int.reduceLT, Int.reduceLE, Int.reduceEq]))
            rw [← hO]
            exact Fin.end hcl rfl (by first | rfl | exact (List.append_nil _).symm | (simp only [List.append_assoc]; rfl)) ⟨rfl, rfl⟩
        · simp only [must, h1, h2, Bool.not_true, Bool.false_and, Bool.and_false, Bool.not_false, Bool.true_and] at hv2
          simp only [h1, w3, awH, ↓awD, awP, Nat.reduceLeDiff, Nat.reduceEqDiff, Nat.reduceAdd, Int.reduceLT, Int.reduceLE, Int.reduceEq]
          repeat' (first | ((try refine Need.mk (by first | (first | omega | (simp only [awO] at *; omega) | (simp; omega)) | (constructor <;> (first | omega | (simp only [awO] at *; omega) | (simp; omega)))) ?_); refine Elem.recs hgf (by first | (rw [fldv_eq]; exact ⟨rfl, rfl⟩) | exact ⟨rfl, rfl⟩) ?_; simp only [fldv_eq, gA, gB, w3, dd, h2, aw21, awH, ↓awD, awP, Nat.reduceLeDiff, Nat.reduceEqDiff, Nat.reduceAdd, Int.reduceLT, Int.reduceLE, Int.reduceEq]))
          exact ⟨(i + 1, k1'), ⟨hi, hv2, hk⟩, by simp only; omega, weak_of rfl (by simp [look])⟩
    · have hkl : k < v.names.length := by rw [decide_eq_true_eq] at hkk; omega
      obtain ⟨x, hx⟩ : ∃ x, v.names[k]? = some x := ⟨_, List.getElem?_eq_getElem hkl⟩
      obtain ⟨y, hy⟩ : ∃ y, v.l[k]? = some y := ⟨_, List.getElem?_eq_getElem (by omega)⟩
      have hgx := map_get str v.names k x hx
      have hgy := map_get valv v.l k y hy
      have hBy := fun h => hB f (List.mem_of_getElem? hf0) y (List.mem_of_getElem? hy) h
      simp only [valv_eq] at hBy
      rw [drop_get hx, drop_get hy] at hv2
      simp only [seqW, List.tail_cons] at hv2
      simp only [e1, gA, gB, hkk, w3, di, dd, awH, ↓awD, awP, Nat.reduceLeDiff, Nat.reduceEqDiff, Nat.reduceAdd, Int.reduceLT, Int.reduceLE, Int.reduceEq]
      refine Need.mk ⟨by omega, by omega⟩ (Elem.recs hgx ⟨rfl, rfl⟩ ?_)
      simp only [gA, gB, hkk, w3, di, dd, awH, ↓awD, awP, Nat.reduceLeDiff, Nat.reduceEqDiff, Nat.reduceAdd, Int.reduceLT, Int.reduceLE, Int.reduceEq]
      cases hxn : decide (x = f.name)
      · simp only [hxn, Bool.false_eq_true, if_false] at hv2
        repeat' (first | ((try refine Need.mk (by first | (first | omega | (simp only [awO] at *; omega) | (simp; omega)) | (constructor <;> (first | omega | (simp only [awO] at *; omega) | (simp; omega)))) ?_); refine Elem.recs hgf (by first | (rw [fldv_eq]; exact ⟨rfl, rfl⟩) | exact ⟨rfl, rfl⟩) ?_; simp only [fldv_eq, gA, gB, w3, di, dd, hxn, aw21, awH, ↓awD, awP, Nat.reduceLeDiff, Nat.reduceEqDiff, Nat.reduceAdd, Int.reduceLT, Int.reduceLE, Int.reduceEq]))
        rw [← drop_get hx, ← drop_get hy] at hv2
        obtain ⟨k1', hk1⟩ : ∃ k1', k1' = k := ⟨_, rfl⟩
        rw [← hk1] at hv2 hk
        rw [← hk1]
        cases h1 : decide (i < r.parts.length)
        · simp only [must, h1, Bool.false_and, Bool.not_false, Bool.true_and] at hv2
          simp only [h1, w3, awH, ↓awD, awP, Nat.reduceLeDiff, Nat.reduceEqDiff, Nat.reduceAdd, Int.reduceLT, Int.reduceLE, Int.reduceEq]
          exact ⟨(i + 1, k1'), ⟨hi, hv2, hk⟩, by simp only; omega, weak_of rfl (by simp [look])⟩
        · cases h2 : f.opt
          · cases h3 : decide (f.dfl.length = 0)
            · simp only [must, h1, h2, h3, Bool.and_false, Bool.not_false, Bool.true_and] at hv2
              simp only [h1, w3, awH, ↓awD, awP, Nat.reduceLeDiff, Nat.reduceEqDiff, Nat.reduceAdd, Int.reduceLT, Int.reduceLE, Int.reduceEq]
              repeat' (first | ((try refine Need.mk (by first | (first | omega | (simp only [awO] at *; omega) | (simp; omega)) | (constructor <;> (first | omega | (simp only [awO] at *; omega) | (simp; omega)))) ?_); refine Elem.recs hgf (by first | (rw [fldv_eq]; exact ⟨rfl, rfl⟩) | exact ⟨rfl, rfl⟩) ?_; simp only [fldv_eq, gA, gB, w3, dd, h2, h3, aw21, awH, ↓awD, awP, Nat.reduceLeDiff, Nat.reduceEqDiff, Nat.reduceAdd, Int.reduceLT, Int.reduceLE, Int.reduceEq]))
              exact ⟨(i + 1, k1'), ⟨hi, hv2, hk⟩, by simp only; omega, weak_of rfl (by simp [look])⟩
            · simp only [must, h1, h2, h3, Bool.and_self, Bool.not_false, Bool.not_true, Bool.false_and] at hv2
              subst hv2
              simp only [h1, w3, awH, ↓awD, awP, Nat.reduceLeDiff, Nat.reduceEqDiff, Nat.reduceAdd, Int.reduceLT, Int.reduceLE, Int.reduceEq]
              repeat' (first | ((try refine Need.mk (by first | (first | omega | (simp only [awO] at *; omega) | (simp; omega)) | (constructor <;> (first | omega | (simp only [awO] at *; omega) | (simp; omega)))) ?_); refine Elem.recs hgf (by first | (rw [fldv_eq]; exact ⟨rfl, rfl⟩) | exact ⟨rfl, rfl⟩) ?_; simp only [fldv_eq, gA, gB, w3, dd, h2, h3, aw21, awH, ↓awD, awP, Nat.reduceLeDiff, Nat.reduceEqDiff, Nat.reduceAdd, Int.reduceLT, Int.reduceLE, Int.reduceEq]))
              rw [← hO]
              exact Fin.end hcl rfl (by first | rfl | exact (List.append_nil _).symm | (simp only [List.append_assoc]; rfl)) ⟨rfl, rfl⟩
          · simp only [must, h1, h2, Bool.not_true, Bool.false_and, Bool.and_false, Bool.not_false, Bool.true_and] at hv2
            simp only [h1, w3, awH, ↓awD, awP, Nat.reduceLeDiff, Nat.reduceEqDiff, Nat.reduceAdd, Int.reduceLT, Int.reduceLE, Int.reduceEq]
            repeat' (first | ((try refine Need.mk (by first | (first | omega | (simp only [awO] at *; omega) | (simp; omega)) | (constructor <;> (first | omega | (simp only [awO] at *; omega) | (simp; omega)))) ?_); refine Elem.recs hgf (by first | (rw [fldv_eq]; exact ⟨rfl, rfl⟩) | exact ⟨rfl, rfl⟩) ?_; simp only [fldv_eq, gA, gB, w3, dd, h2, aw21, awH, ↓awD, awP, Nat.reduceLeDiff, Nat.reduceEqDiff, Nat.reduceAdd, Int.reduceLT, Int.reduceLE, Int.reduceEq]))
            exact ⟨(i + 1, k1'), ⟨hi, hv2, hk⟩, by simp only; omega, weak_of rfl (by simp [look])⟩
      · simp only [hxn, if_true] at hv2
        repeat' (first | ((try refine Need.mk (by first | (first | omega | (simp only [awO] at *; omega) | (simp; omega)) | (constructor <;> (first | omega | (simp only [awO] at *; omega) | (simp; omega)))) ?_); refine Elem.recs hgf (by first | (rw [fldv_eq]; exact ⟨rfl, rfl⟩) | exact ⟨rfl, rfl⟩) ?_; simp only [fldv_eq, gA, gB, w3, di, dd, hxn, wr, aw21, awH, ↓awD, awP, Nat.reduceLeDiff, Nat.reduceEqDiff, Nat.reduceAdd, Int.reduceLT, Int.reduceLE, Int.reduceEq]) | ((try refine Need.mk (by first | (first | omega | (simp only [awO] at *; omega) | (simp; omega)) | (constructor <;> (first | omega | (simp only [awO] at *; omega) | (simp; omega)))) ?_); refine Elem.recs hgy (by first | (rw [valv_eq]; exact ⟨rfl, rfl⟩) | exact ⟨rfl, rfl⟩) ?_; simp only [valv_eq, gA, gB, w3, di, dd, hxn, wr, aw21, awH, ↓awD, awP, Nat.reduceLeDiff, Nat.reduceEqDiff, Nat.reduceAdd, Int.reduceLT, Int.reduceLE, Int.reduceEq]))
        cases hby : B f.t y
        · rw [hby] at hBy hv2
          rw [Bool.false_and] at hv2
          subst hv2
          repeat' (first | ((first | refine EvF.ret (hBy _) ?_ | refine EvRF.ret (hBy _) ?_); simp only [gA, gB, w3, aw21, awH, ↓awD, awP, Nat.reduceLeDiff, Nat.reduceEqDiff, Nat.reduceAdd, Int.reduceLT, Int.reduceLE, Int.reduceEq]))
          rw [← hO]
          exact Fin.end hcl rfl (by first | rfl | exact (List.append_nil _).symm | (simp only [List.append_assoc]; rfl)) ⟨rfl, rfl⟩
        · rw [hby] at hBy hv2
          rw [Bool.true_and] at hv2
          repeat' (first | ((first | refine EvF.ret (hBy _) ?_ | refine EvRF.ret (hBy _) ?_); simp only [gA, gB, w3, wk, aw21, awH, ↓awD, awP, Nat.reduceLeDiff, Nat.reduceEqDiff, Nat.reduceAdd, Int.reduceLT, Int.reduceLE, Int.reduceEq]))
          exact ⟨(i + 1, k + 1), ⟨hi, hv2, hkl⟩, by simp only; omega, weak_of rfl (by simp [look])⟩
  · rintro k ⟨hv2, hk⟩ e1
    rw [drop_len] at hv2
    simp only [seqW] at hv2
    have dk : decide ((k : Int) = (v.names.length : Int)) = decide ((v.names.drop k).length = 0) := by rw [decide_eq_decide, List.length_drop]; omega
    simp only [e1, gB, dk, awH, ↓awD, awP, Nat.reduceLeDiff, Nat.reduceEqDiff, Nat.reduceAdd, Int.reduceLT, Int.reduceLE, Int.reduceEq]
    rw [hv2, ← hO]
    exact Fin.end hcl rfl (by first | rfl | exact (List.append_nil _).symm | (simp only [List.append_assoc]; rfl)) ⟨rfl, rfl⟩

def ac37 : ACode := (.seq (.region [oq 6 (.box (tq 2)), oq 8 (.move (cb false))]) (.seq (.region [oq 13 (qm 0), oq 14 (qm 1), oq 15 (qx 12 13 14), oq 16 (qs 12 15), oq 9 (.alloc [zi, zb, zn, zi, zi, zs, zn, zn, zn, zn, zn, zi]), oz (.store 12 (tq 9) (tq 16))]) (.seq (.seq (.region [oq 17 (qm 3), oq 18 (.bin .eql (tq 17) (ci 0)), oq 19 (qm 18), og 20 (qf 0 9) 19 true, og 21 (ql 20) 19 true, og 22 (.call (.func 50) [((tq 21), false)]) 19 true, oq 23 (.pick (tq 19) (tq 22) (cb false)), oq 24 (qm 23), og 25 (qf 0 6) 24 false, og 26 (ql 25) 24 false, og 27 (qf 0 9) 24 false, og 28 (ql 27) 24 false, og 29 (.bin .neq (tq 26) (tq 28)) 24 false, oq 30 (.pick (tq 24) (cb true) (tq 29))]) (.cond (tq 30) (.seq (.region [oq 8 (.move (cb false))]) .ret) .skip)) (.seq (.seq (.region [oq 31 (qf 0 9), oq 32 (ql 31), oq 33 (.bin .eql (tq 32) (ci 8))]) (.cond (tq 33) (.seq (.region [oq 34 (qm 0), oq 35 (qs 12 9), oq 36 (qs 5 6), oq 37 (qm 3), oq 38 (.call (.func 51) [((tq 34), false), ((tq 35), false), ((tq 36), false), ((tq 37), false)]), oq 8 (qm 38)]) .ret) .skip)) (.seq (.seq (.region [oq 39 (qf 3 6), oq 40 (ql 39), oq 41 (qn 40), oq 42 (.bin .gtr (tq 41) (ci 0)), oq 43 (qm 42), og 44 (qf 1 6) 43 false, og 45 (ql 44) 43 false, og 46 (.bin .neq (tq 45) (ci 0)) 43 false, og 47 (qm 46) 43 false, og 48 (qf 0 9) 47 true, og 49 (ql 48) 47 true, og 50 (.bin .neq (tq 49) (ci 1)) 47 true, og 51 (.pick (tq 47) (tq 50) (cb false)) 43 false, og 52 (qm 51) 43 false, og 53 (qf 0 9) 52 true, og 54 (ql 53) 52 true, og 55 (.bin .neq (tq 54) (ci 2)) 52 true, og 56 (.pick (tq 52) (tq 55) (cb false)) 43 false, oq 57 (.pick (tq 43) (cb true) (tq 56)), oq 58 (qm 57), og 59 (qf 4 6) 58 false, og 60 (ql 59) 58 false, og 61 (qn 60) 58 false, og 62 (.bin .gtr (tq 61) (ci 0)) 58 false, og 63 (qm 62) 58 false, og 64 (qf 0 9) 63 true, og 65 (ql 64) 63 true, og 66 (.bin .neq (tq 65) (ci 9)) 63 true, og 67 (.pick (tq 63) (tq 66) (cb false)) 58 false, og 68 (qm 67) 58 false, og 69 (qf 0 9) 68 true, og 70 (ql 69) 68 true, og 71 (.bin .neq (tq 70) (ci 10)) 68 true, og 72 (.pick (tq 68) (tq 71) (cb false)) 58 false, oq 73 (.pick (tq 58) (cb true) (tq 72))]) (.cond (tq 73) (.seq (.region [oq 8 (.move (cb false))]) .ret) .skip)) (.seq (.seq (.region [oq 74 (qf 2 6), oq 75 (ql 74), oq 76 (.bin .neq (tq 75) (.const (.string (⟨#[]⟩ : ByteArray)))), oq 77 (qm 76), og 78 (qf 0 9) 77 true, og 79 (ql 78) 77 true, og 80 (.bin .eql (tq 79) (ci 1)) 77 true, og 81 (qm 80) 77 true, og 82 (qf 0 9) 81 false, og 83 (ql 82) 81 false, og 84 (.bin .eql (tq 83) (ci 2)) 81 false, og 85 (.pick (tq 81) (cb true) (tq 84)) 77 true, og 86 (qm 85) 77 true, og 87 (qf 0 9) 86 false, og 88 (ql 87) 86 false, og 89 (.bin .eql (tq 88) (ci 4)) 86 false, og 90 (.pick (tq 86) (cb true) (tq 89)) 77 true, og 91 (qm 90) 77 true, og 92 (qf 0 9) 91 false, og 93 (ql 92) 91 false, og 94 (.bin .eql (tq 93) (ci 9)) 91 false, og 95 (.pick (tq 91) (cb true) (tq 94)) 77 true, oq 96 (.pick (tq 77) (tq 95) (cb false))]) (.cond (tq 96) (.seq (.region [oq 8 (.move (cb false))]) .ret) .skip)) (.seq (.seq (.region [oq 97 (qf 0 9), oq 98 (ql 97)]) (.block 0 (.seq (.region [oq 100 (.bin .eql (tq 98) (ci 1)), oq 99 (qm 100)]) (.cond (tq 99) (.seq (.region [oq 101 (qf 1 6), oq 102 (ql 101), oq 103 (.bin .eql (tq 102) (ci 0)), oq 104 (qm 103), og 105 (qf 1 6) 104 false, og 106 (ql 105) 104 false, og 107 (.bin .eql (tq 106) (ci 1)) 104 false, oq 108 (.pick (tq 104) (cb true) (tq 107)), oq 8 (qm 108)]) .ret) (.seq (.region [oq 110 (.bin .eql (tq 98) (ci 2)), oq 109 (qm 110)]) (.cond (tq 109) (.seq (.region [oq 111 (qf 1 9), oq 112 (ql 111), oq 113 (qm 112), og 114 (qf 2 9) 113 false, og 115 (ql 114) 113 false, og 116 (qf 1 6) 113 false, og 117 (ql 116) 113 false, og 118 (.call (.func 52) [((tq 115), false), ((tq 117), false)]) 113 false, oq 119 (.pick (tq 113) (cb true) (tq 118)), oq 8 (qm 119)]) .ret) (.seq (.region [oq 121 (.bin .eql (tq 98) (ci 3)), oq 120 (qm 121)]) (.cond (tq 120) (.seq (.region [oq 122 (qf 6 9), oq 123 (ql 122), oq 124 (qf 2 6), oq 125 (ql 124), oq 126 (.call (.func 38) [((tq 123), false), ((tq 125), false)]), oq 127 (.bin .geq (tq 126) (ci 0)), oq 128 (qm 127), og 129 (qf 7 9) 128 false, og 130 (ql 129) 128 false, og 131 (qf 2 6) 128 false, og 132 (ql 131) 128 false, og 133 (.call (.func 38) [((tq 130), false), ((tq 132), false)]) 128 false, og 134 (.bin .geq (tq 133) (ci 0)) 128 false, oq 135 (.pick (tq 128) (cb true) (tq 134)), oq 8 (qm 135)]) .ret) (.seq (.region [oq 137 (.bin .eql (tq 98) (ci 5)), oq 136 (qm 137)]) (.cond (tq 136) (.seq (.region [oq 138 (qf 2 6), oq 139 (ql 138), oq 140 (.call (.func 53) [((tq 139), false), ((.const (.string (⟨#[48, 49]⟩ : ByteArray))), false)]), oq 141 (qm 140), og 142 (qs 12 9) 141 true, og 143 (qf 2 6) 141 true, og 144 (ql 143) 141 true, og 145 (.len true (tq 144)) 141 true, og 146 (.call (.func 54) [((tq 142), false), ((tq 145), false)]) 141 true, oq 147 (.pick (tq 141) (tq 146) (cb false)), oq 8 (qm 147)]) .ret) (.seq (.region [oq 149 (.bin .eql (tq 98) (ci 6)), oq 148 (qm 149)]) (.cond (tq 148) (.seq (.region [oq 150 (qs 12 9), oq 151 (qf 2 6), oq 152 (ql 151), oq 153 (.len true (tq 152)), oq 154 (.call (.func 54) [((tq 150), false), ((tq 153), false)]), oq 8 (qm 154)]) .ret) (.seq (.region [oq 156 (.bin .eql (tq 98) (ci 7)), oq 155 (qm 156)]) (.cond (tq 155) (.seq (.region [oq 157 (qf 2 6), oq 158 (ql 157), oq 159 (qf 5 9), oq 160 (ql 159), oq 161 (.call (.func 53) [((tq 158), false), ((tq 160), false)]), oq 162 (qm 161), og 163 (qs 12 9) 162 true, og 164 (qf 2 6) 162 true, og 165 (ql 164) 162 true, og 166 (.len true (tq 165)) 162 true, og 167 (.call (.func 54) [((tq 163), false), ((tq 166), false)]) 162 true, oq 168 (.pick (tq 162) (tq 167) (cb false)), oq 8 (qm 168)]) .ret) (.seq (.region [oq 170 (.bin .eql (tq 98) (ci 10)), oq 169 (qm 170)]) (.cond (tq 169) (.seq (.region [oq 171 (qs 12 9), oq 172 (.call (.func 18) [((tq 171), false)]), oq 10 (qm 172)]) (.seq (.seq (.region [oq 11 (.move (ci 0))]) (.block 1 (.loop (.seq (.seq (.region [oq 173 (qm 11), oq 174 (qm 10), oq 175 (qn 174), oq 176 (.bin .lss (tq 173) (tq 175))]) (.cond (tq 176) .skip (.exit 1))) (.seq (.block 2 (.seq (.draw [oq 179 (qm 10), oq 180 (qm 11), oq 181 (qx 4 179 180), oq 182 (qf 0 181), oq 183 (ql 182), oq 184 (qf 2 6), oq 185 (ql 184), oq 186 (.bin .eql (tq 183) (tq 185))]) (.cond (tq 186) (.seq (.draw [oq 187 (qf 4 6), oq 188 (ql 187), oq 189 (qn 188), oq 190 (.bin .eql (tq 189) (ci 1)), oq 191 (qm 190), og 192 (qm 0) 191 true, og 193 (qm 10) 191 true, og 194 (qm 11) 191 true, og 195 (qx 4 193 194) 191 true, og 196 (qf 1 195) 191 true, og 197 (ql 196) 191 true, og 198 (qf 4 6) 191 true, og 199 (ql 198) 191 true, og 200 (.indexAddr 5 (tq 199) (ci 0)) 191 true, og 201 (qs 5 200) 191 true, og 202 (qm 3) 191 true, og 203 (.bin .sub (tq 202) (ci 1)) 191 true, og 204 (.call (.func 37) [((tq 192), false), ((tq 197), false), ((tq 201), false), ((tq 203), false)]) 191 true, oq 205 (.pick (tq 191) (tq 204) (cb false)), oq 8 (qm 205)]) .ret) .skip))) (.region [oq 177 (qm 11), oq 178 (.bin .add (tq 177) (ci 1)), oq 11 (qm 178)])))))) (.seq (.region [oq 8 (.move (cb false))]) .ret))) (.seq (.region [oq 207 (.bin .eql (tq 98) (ci 9)), oq 206 (qm 207)]) (.cond (tq 206) (.seq (.seq (.region [oq 12 (.move (ci 0))]) (.block 3 (.loop (.seq (.seq (.region [oq 208 (qm 12), oq 209 (qf 4 6), oq 210 (ql 209), oq 211 (qn 210), oq 212 (.bin .lss (tq 208) (tq 211))]) (.cond (tq 212) .skip (.exit 3))) (.seq (.block 4 (.seq (.draw [oq 215 (qm 0), oq 216 (qf 11 9), oq 217 (ql 216), oq 218 (qf 4 6), oq 219 (ql 218), oq 220 (qm 12), oq 221 (qx 5 219 220), oq 222 (qs 5 221), oq 223 (qm 3), oq 224 (.bin .sub (tq 223) (ci 1)), oq 225 (.call (.func 37) [((tq 215), false), ((tq 217), false), ((tq 222), false), ((tq 224), false)]), oq 226 (.un .not (tq 225))]) (.cond (tq 226) (.seq (.region [oq 8 (.move (cb false))]) .ret) .skip))) (.region [oq 213 (qm 12), oq 214 (.bin .add (tq 213) (ci 1)), oq 12 (qm 214)])))))) (.seq (.region [oq 227 (qs 12 9), oq 228 (qf 4 6), oq 229 (ql 228), oq 230 (qn 229), oq 231 (.call (.func 54) [((tq 227), false), ((tq 230), false)]), oq 8 (qm 231)]) .ret)) .skip)))))))))))))))))) (.seq (.region [oq 8 (.move (cb true))]) .ret))))))))
theorem c37 : cfn E0.P [] Tryz.f37 = some (ac37, [(.tmp 8)], 232) := by kernel_rfl

theorem alphaW_low : ∀ (l : List UInt8) (p : Option UInt8), alphaW p l = true → ∀ c, c ∈ l → c.toNat < 128
  | [], _, _, c, hc => by simp at hc
  | a :: l, p, h, c, hc => by
    simp only [alphaW, Bool.and_eq_true, decide_eq_true_eq] at h
    rcases List.mem_cons.1 hc with rfl | hc
    · exact h.1
    · exact alphaW_low l _ h.2.2 c hc
theorem isC_chOk {f : ByteArray} (hf : alphaT f = true) (c : UInt8) : isC f c = chOk f c := by
  unfold isC chOk
  cases h1 : decide (f = ⟨#[]⟩)
  · simp only [Bool.false_and, Bool.false_or]
    cases h2 : f.data.toList.any fun a => decide (a = c)
    · simp
    · obtain ⟨a, ha, he⟩ := List.any_eq_true.1 h2
      have := alphaW_low _ _ hf a ha
      rw [decide_eq_true_eq] at he
      subst he
      simp [this]
  · have hf0 : f = ⟨#[]⟩ := of_decide_eq_true h1
    subst hf0
    simp
theorem chars_text {s f : ByteArray} (hf : alphaT f = true) : charsT s f = textOk s f := by
  unfold charsT textOk
  congr 1
  funext c
  exact isC_chOk hf c
theorem chars_01 (s : ByteArray) : charsT s ⟨#[48, 49]⟩ = textOk s ⟨#[48, 49]⟩ := chars_text (by decide)

set_option maxHeartbeats 8000000 in
theorem rof_k6 (d : List Dsc) (hBD : ∀ r, r ∈ d → BD (2 ^ 30) r) (n : Nat) (r : Dsc) (hr : d[n]? = some r) (hal : alphaT r.frm = true) (room : Nat) (hroom : room ≤ 40) (v : Val) (hv : mxV v ≤ 2 ^ 48) (B : Int → Val → Bool) (z : Bool) (hkk : v.kind = r.kind) (hk : r.kind = 6) (h : List AObj) :
    EvR E0 37 [dscl d, i64 n, valv v, i64 room] h (boolv (hasF B z r v)) := by
  have hp : parted r.kind = false := by rw [hk]; decide
  have hm := hBD r (List.mem_of_getElem? hr)
  have hV := mxV_le v
  have l1 := mxB_len v.names
  have l3 := mxVs_len v.l
  have hnl : n < d.length := (List.getElem?_eq_some_iff.1 hr).1
  have hgd := map_get dscv d n r hr
  have hpl := hpl h
  have hpt := fun h => rparted_ev r.kind h
  rw [hp] at hpt
  have hha := fun h => rhas_ev r.set v.n (by have := hm.1; omega) h
  have hn1 := fun h => rhasS_ev r.names v.s (by have := hm.2.2.1; omega) h
  have hn2 := fun h => rhasS_ev r.more v.s (by have := hm.2.2.2.1; omega) h
  have hc1 := fun h => rchars_ev v.s r.frm (by omega) (by have := hm.2.1; omega) h
  have hc2 := fun h => rchars_ev v.s ⟨#[48, 49]⟩ (by omega) (by decide) h
  have hs1 := fun h => rsize_ev r v.s.size (by have := hm.1; omega) h
  rw [chars_text hal] at hc1
  rw [chars_01] at hc2
  simp only [dscv_eq] at hs1
  have n0 : decide ((0 : Int) < (v.names.length : Int)) = !decide (v.names.length = 0) := by rw [Bool.eq_iff_iff, Bool.not_eq_true', decide_eq_true_eq, decide_eq_false_iff_not]; omega
  have l0 : decide ((0 : Int) < (v.l.length : Int)) = !decide (v.l.length = 0) := by rw [Bool.eq_iff_iff, Bool.not_eq_true', decide_eq_true_eq, decide_eq_false_iff_not]; omega
  refine ev_of (fn := Tryz.f37) (hs := []) Tryz.func37 c37 (by simp) fun hcl => ?_
  obtain ⟨R, hR0⟩ : ∃ R, hasF B z r v = R := ⟨_, rfl⟩
  rw [hR0]
  have hvk0 : v.kind = r.kind := hkk
  have idxN : ∀ (l : List ByteArray), decide ((0 : Int) ≤ idx (fun x => decide (x = v.s)) l 0) = l.any fun x => decide (v.s = x) := fun l => by rw [idx_any]; congr 1; funext x; rw [decide_eq_decide]; exact eq_comm
  have hR : hasF B z r v = R := hR0
  simp only [hk, idxN] at hpt hs1
  simp only [hasF, bareV, kindF, hp, hvk0, hk, idxN, parted, Int.reduceEq, decide_true, decide_false, cond_true, cond_false, Bool.not_true, Bool.not_false, Bool.true_and, Bool.false_and, Bool.and_true, Bool.and_false, Bool.true_or, Bool.false_or, Bool.or_true, Bool.or_false, Bool.not_not, Bool.and_self, Bool.or_self] at hR
  simp only [ac37, valv_eq, hvk0, awH, ↓awD, awP, Nat.reduceLeDiff, Nat.reduceEqDiff, Nat.reduceAdd, Int.reduceLT, Int.reduceLE, Int.reduceEq]
  repeat' (first | ((try refine Need.mk (by first | (first | omega | (simp only [awO] at *; omega) | (simp; omega)) | (constructor <;> (first | omega | (simp only [awO] at *; omega) | (simp; omega)))) ?_); refine Elem.recs hgd (by first | (rw [dscv_eq]; exact ⟨rfl, rfl⟩) | exact ⟨rfl, rfl⟩) ?_; simp only [dscv_eq, hk, idxN, hpl, aw21, awH, ↓awD, awP, Nat.reduceLeDiff, Nat.reduceEqDiff, Nat.reduceAdd, Int.reduceLT, Int.reduceLE, Int.reduceEq]))
  repeat' (first | ((first | refine EvF.ret (hpt _) ?_ | refine EvRF.ret (hpt _) ?_); simp only [hk, idxN, hpl, n0, l0, aw21, awH, ↓awD, awP, Nat.reduceLeDiff, Nat.reduceEqDiff, Nat.reduceAdd, Int.reduceLT, Int.reduceLE, Int.reduceEq]) | ((first | refine EvF.ret (hs1 _) ?_ | refine EvRF.ret (hs1 _) ?_); simp only [hk, idxN, hpl, n0, l0, aw21, awH, ↓awD, awP, Nat.reduceLeDiff, Nat.reduceEqDiff, Nat.reduceAdd, Int.reduceLT, Int.reduceLE, Int.reduceEq]) | (refine BrF.mk (fun hb => ?_) (fun hb => ?_) <;> (try rw [hb]) <;> simp only [hk, idxN, hpl, n0, l0, aw21, awH, ↓awD, awP, Nat.reduceLeDiff, Nat.reduceEqDiff, Nat.reduceAdd, Int.reduceLT, Int.reduceLE, Int.reduceEq]))
  all_goals (refine Fin.end hcl rfl (by first | rfl | exact (List.append_nil _).symm | (simp only [List.append_assoc]; rfl)) ⟨?_, rfl⟩; rw [← hR]; clear hR hR0 hcl hpt hha hn1 hn2 hc1 hc2 hs1 hpl hgd; first | (simp only [*, Bool.not_true, Bool.not_false, Bool.true_and, Bool.false_and, Bool.and_true, Bool.and_false, Bool.true_or, Bool.false_or, Bool.or_true, Bool.or_false, Bool.not_not, Bool.and_self, Bool.or_self]; done) | (simp_all; done) | skip)

set_option maxHeartbeats 8000000 in
theorem rof_k1 (d : List Dsc) (hBD : ∀ r, r ∈ d → BD (2 ^ 30) r) (n : Nat) (r : Dsc) (hr : d[n]? = some r) (hal : alphaT r.frm = true) (room : Nat) (hroom : room ≤ 40) (v : Val) (hv : mxV v ≤ 2 ^ 48) (B : Int → Val → Bool) (z : Bool) (hkk : v.kind = r.kind) (hk : r.kind = 1) (h : List AObj) :
    EvR E0 37 [dscl d, i64 n, valv v, i64 room] h (boolv (hasF B z r v)) := by
  have hp : parted r.kind = false := by rw [hk]; decide
  have hm := hBD r (List.mem_of_getElem? hr)
  have hV := mxV_le v
  have l1 := mxB_len v.names
  have l3 := mxVs_len v.l
  have hnl : n < d.length := (List.getElem?_eq_some_iff.1 hr).1
  have hgd := map_get dscv d n r hr
  have hpl := hpl h
  have hpt := fun h => rparted_ev r.kind h
  rw [hp] at hpt
  have hha := fun h => rhas_ev r.set v.n (by have := hm.1; omega) h
  have hn1 := fun h => rhasS_ev r.names v.s (by have := hm.2.2.1; omega) h
  have hn2 := fun h => rhasS_ev r.more v.s (by have := hm.2.2.2.1; omega) h
  have hc1 := fun h => rchars_ev v.s r.frm (by omega) (by have := hm.2.1; omega) h
  have hc2 := fun h => rchars_ev v.s ⟨#[48, 49]⟩ (by omega) (by decide) h
  have hs1 := fun h => rsize_ev r v.s.size (by have := hm.1; omega) h
  rw [chars_text hal] at hc1
  rw [chars_01] at hc2
  simp only [dscv_eq] at hs1
  have n0 : decide ((0 : Int) < (v.names.length : Int)) = !decide (v.names.length = 0) := by rw [Bool.eq_iff_iff, Bool.not_eq_true', decide_eq_true_eq, decide_eq_false_iff_not]; omega
  have l0 : decide ((0 : Int) < (v.l.length : Int)) = !decide (v.l.length = 0) := by rw [Bool.eq_iff_iff, Bool.not_eq_true', decide_eq_true_eq, decide_eq_false_iff_not]; omega
  refine ev_of (fn := Tryz.f37) (hs := []) Tryz.func37 c37 (by simp) fun hcl => ?_
  obtain ⟨R, hR0⟩ : ∃ R, hasF B z r v = R := ⟨_, rfl⟩
  rw [hR0]
  have hvk0 : v.kind = r.kind := hkk
  have idxN : ∀ (l : List ByteArray), decide ((0 : Int) ≤ idx (fun x => decide (x = v.s)) l 0) = l.any fun x => decide (v.s = x) := fun l => by rw [idx_any]; congr 1; funext x; rw [decide_eq_decide]; exact eq_comm
  have hR : hasF B z r v = R := hR0
  simp only [hk, idxN] at hpt hs1
  simp only [hasF, bareV, kindF, hp, hvk0, hk, idxN, parted, Int.reduceEq, decide_true, decide_false, cond_true, cond_false, Bool.not_true, Bool.not_false, Bool.true_and, Bool.false_and, Bool.and_true, Bool.and_false, Bool.true_or, Bool.false_or, Bool.or_true, Bool.or_false, Bool.not_not, Bool.and_self, Bool.or_self] at hR
  simp only [ac37, valv_eq, hvk0, awH, ↓awD, awP, Nat.reduceLeDiff, Nat.reduceEqDiff, Nat.reduceAdd, Int.reduceLT, Int.reduceLE, Int.reduceEq]
  repeat' (first | ((try refine Need.mk (by first | (first | omega | (simp only [awO] at *; omega) | (simp; omega)) | (constructor <;> (first | omega | (simp only [awO] at *; omega) | (simp; omega)))) ?_); refine Elem.recs hgd (by first | (rw [dscv_eq]; exact ⟨rfl, rfl⟩) | exact ⟨rfl, rfl⟩) ?_; simp only [dscv_eq, hk, idxN, hpl, aw21, awH, ↓awD, awP, Nat.reduceLeDiff, Nat.reduceEqDiff, Nat.reduceAdd, Int.reduceLT, Int.reduceLE, Int.reduceEq]))
  repeat' (first | ((first | refine EvF.ret (hpt _) ?_ | refine EvRF.ret (hpt _) ?_); simp only [hk, idxN, hpl, n0, l0, aw21, awH, ↓awD, awP, Nat.reduceLeDiff, Nat.reduceEqDiff, Nat.reduceAdd, Int.reduceLT, Int.reduceLE, Int.reduceEq]) | fail | (refine BrF.mk (fun hb => ?_) (fun hb => ?_) <;> (try rw [hb]) <;> simp only [hk, idxN, hpl, n0, l0, aw21, awH, ↓awD, awP, Nat.reduceLeDiff, Nat.reduceEqDiff, Nat.reduceAdd, Int.reduceLT, Int.reduceLE, Int.reduceEq]))
  all_goals (refine Fin.end hcl rfl (by first | rfl | exact (List.append_nil _).symm | (simp only [List.append_assoc]; rfl)) ⟨?_, rfl⟩; rw [← hR]; clear hR hR0 hcl hpt hha hn1 hn2 hc1 hc2 hs1 hpl hgd; first | (simp only [*, Bool.not_true, Bool.not_false, Bool.true_and, Bool.false_and, Bool.and_true, Bool.and_false, Bool.true_or, Bool.false_or, Bool.or_true, Bool.or_false, Bool.not_not, Bool.and_self, Bool.or_self]; done) | (simp_all; done) | skip)

set_option maxHeartbeats 8000000 in
theorem rof_k2 (d : List Dsc) (hBD : ∀ r, r ∈ d → BD (2 ^ 30) r) (n : Nat) (r : Dsc) (hr : d[n]? = some r) (hal : alphaT r.frm = true) (room : Nat) (hroom : room ≤ 40) (v : Val) (hv : mxV v ≤ 2 ^ 48) (B : Int → Val → Bool) (z : Bool) (hkk : v.kind = r.kind) (hk : r.kind = 2) (h : List AObj) :
    EvR E0 37 [dscl d, i64 n, valv v, i64 room] h (boolv (hasF B z r v)) := by
  have hp : parted r.kind = false := by rw [hk]; decide
  have hm := hBD r (List.mem_of_getElem? hr)
  have hV := mxV_le v
  have l1 := mxB_len v.names
  have l3 := mxVs_len v.l
  have hnl : n < d.length := (List.getElem?_eq_some_iff.1 hr).1
  have hgd := map_get dscv d n r hr
  have hpl := hpl h
  have hpt := fun h => rparted_ev r.kind h
  rw [hp] at hpt
  have hha := fun h => rhas_ev r.set v.n (by have := hm.1; omega) h
  have hn1 := fun h => rhasS_ev r.names v.s (by have := hm.2.2.1; omega) h
  have hn2 := fun h => rhasS_ev r.more v.s (by have := hm.2.2.2.1; omega) h
  have hc1 := fun h => rchars_ev v.s r.frm (by omega) (by have := hm.2.1; omega) h
  have hc2 := fun h => rchars_ev v.s ⟨#[48, 49]⟩ (by omega) (by decide) h
  have hs1 := fun h => rsize_ev r v.s.size (by have := hm.1; omega) h
  rw [chars_text hal] at hc1
  rw [chars_01] at hc2
  simp only [dscv_eq] at hs1
  have n0 : decide ((0 : Int) < (v.names.length : Int)) = !decide (v.names.length = 0) := by rw [Bool.eq_iff_iff, Bool.not_eq_true', decide_eq_true_eq, decide_eq_false_iff_not]; omega
  have l0 : decide ((0 : Int) < (v.l.length : Int)) = !decide (v.l.length = 0) := by rw [Bool.eq_iff_iff, Bool.not_eq_true', decide_eq_true_eq, decide_eq_false_iff_not]; omega
  refine ev_of (fn := Tryz.f37) (hs := []) Tryz.func37 c37 (by simp) fun hcl => ?_
  obtain ⟨R, hR0⟩ : ∃ R, hasF B z r v = R := ⟨_, rfl⟩
  rw [hR0]
  have hvk0 : v.kind = r.kind := hkk
  have idxN : ∀ (l : List ByteArray), decide ((0 : Int) ≤ idx (fun x => decide (x = v.s)) l 0) = l.any fun x => decide (v.s = x) := fun l => by rw [idx_any]; congr 1; funext x; rw [decide_eq_decide]; exact eq_comm
  have hR : hasF B z r v = R := hR0
  simp only [hk, idxN] at hpt hs1
  simp only [hasF, bareV, kindF, hp, hvk0, hk, idxN, parted, Int.reduceEq, decide_true, decide_false, cond_true, cond_false, Bool.not_true, Bool.not_false, Bool.true_and, Bool.false_and, Bool.and_true, Bool.and_false, Bool.true_or, Bool.false_or, Bool.or_true, Bool.or_false, Bool.not_not, Bool.and_self, Bool.or_self] at hR
  simp only [ac37, valv_eq, hvk0, awH, ↓awD, awP, Nat.reduceLeDiff, Nat.reduceEqDiff, Nat.reduceAdd, Int.reduceLT, Int.reduceLE, Int.reduceEq]
  repeat' (first | ((try refine Need.mk (by first | (first | omega | (simp only [awO] at *; omega) | (simp; omega)) | (constructor <;> (first | omega | (simp only [awO] at *; omega) | (simp; omega)))) ?_); refine Elem.recs hgd (by first | (rw [dscv_eq]; exact ⟨rfl, rfl⟩) | exact ⟨rfl, rfl⟩) ?_; simp only [dscv_eq, hk, idxN, hpl, aw21, awH, ↓awD, awP, Nat.reduceLeDiff, Nat.reduceEqDiff, Nat.reduceAdd, Int.reduceLT, Int.reduceLE, Int.reduceEq]))
  repeat' (first | ((first | refine EvF.ret (hpt _) ?_ | refine EvRF.ret (hpt _) ?_); simp only [hk, idxN, hpl, n0, l0, aw21, awH, ↓awD, awP, Nat.reduceLeDiff, Nat.reduceEqDiff, Nat.reduceAdd, Int.reduceLT, Int.reduceLE, Int.reduceEq]) | ((first | refine EvF.ret (hha _) ?_ | refine EvRF.ret (hha _) ?_); simp only [hk, idxN, hpl, n0, l0, aw21, awH, ↓awD, awP, Nat.reduceLeDiff, Nat.reduceEqDiff, Nat.reduceAdd, Int.reduceLT, Int.reduceLE, Int.reduceEq]) | (refine BrF.mk (fun hb => ?_) (fun hb => ?_) <;> (try rw [hb]) <;> simp only [hk, idxN, hpl, n0, l0, aw21, awH, ↓awD, awP, Nat.reduceLeDiff, Nat.reduceEqDiff, Nat.reduceAdd, Int.reduceLT, Int.reduceLE, Int.reduceEq]))
  all_goals (refine Fin.end hcl rfl (by first | rfl | exact (List.append_nil _).symm | (simp only [List.append_assoc]; rfl)) ⟨?_, rfl⟩; rw [← hR]; clear hR hR0 hcl hpt hha hn1 hn2 hc1 hc2 hs1 hpl hgd; first | (simp only [*, Bool.not_true, Bool.not_false, Bool.true_and, Bool.false_and, Bool.and_true, Bool.and_false, Bool.true_or, Bool.false_or, Bool.or_true, Bool.or_false, Bool.not_not, Bool.and_self, Bool.or_self]; done) | (simp_all; done) | skip)

set_option maxHeartbeats 8000000 in
theorem rof_k5 (d : List Dsc) (hBD : ∀ r, r ∈ d → BD (2 ^ 30) r) (n : Nat) (r : Dsc) (hr : d[n]? = some r) (hal : alphaT r.frm = true) (room : Nat) (hroom : room ≤ 40) (v : Val) (hv : mxV v ≤ 2 ^ 48) (B : Int → Val → Bool) (z : Bool) (hkk : v.kind = r.kind) (hk : r.kind = 5) (h : List AObj) :
    EvR E0 37 [dscl d, i64 n, valv v, i64 room] h (boolv (hasF B z r v)) := by
  have hp : parted r.kind = false := by rw [hk]; decide
  have hm := hBD r (List.mem_of_getElem? hr)
  have hV := mxV_le v
  have l1 := mxB_len v.names
  have l3 := mxVs_len v.l
  have hnl : n < d.length := (List.getElem?_eq_some_iff.1 hr).1
  have hgd := map_get dscv d n r hr
  have hpl := hpl h
  have hpt := fun h => rparted_ev r.kind h
  rw [hp] at hpt
  have hha := fun h => rhas_ev r.set v.n (by have := hm.1; omega) h
  have hn1 := fun h => rhasS_ev r.names v.s (by have := hm.2.2.1; omega) h
  have hn2 := fun h => rhasS_ev r.more v.s (by have := hm.2.2.2.1; omega) h
  have hc1 := fun h => rchars_ev v.s r.frm (by omega) (by have := hm.2.1; omega) h
  have hc2 := fun h => rchars_ev v.s ⟨#[48, 49]⟩ (by omega) (by decide) h
  have hs1 := fun h => rsize_ev r v.s.size (by have := hm.1; omega) h
  rw [chars_text hal] at hc1
  rw [chars_01] at hc2
  simp only [dscv_eq] at hs1
  have n0 : decide ((0 : Int) < (v.names.length : Int)) = !decide (v.names.length = 0) := by rw [Bool.eq_iff_iff, Bool.not_eq_true', decide_eq_true_eq, decide_eq_false_iff_not]; omega
  have l0 : decide ((0 : Int) < (v.l.length : Int)) = !decide (v.l.length = 0) := by rw [Bool.eq_iff_iff, Bool.not_eq_true', decide_eq_true_eq, decide_eq_false_iff_not]; omega
  refine ev_of (fn := Tryz.f37) (hs := []) Tryz.func37 c37 (by simp) fun hcl => ?_
  obtain ⟨R, hR0⟩ : ∃ R, hasF B z r v = R := ⟨_, rfl⟩
  rw [hR0]
  have hvk0 : v.kind = r.kind := hkk
  have idxN : ∀ (l : List ByteArray), decide ((0 : Int) ≤ idx (fun x => decide (x = v.s)) l 0) = l.any fun x => decide (v.s = x) := fun l => by rw [idx_any]; congr 1; funext x; rw [decide_eq_decide]; exact eq_comm
  have hR : hasF B z r v = R := hR0
  simp only [hk, idxN] at hpt hs1
  simp only [hasF, bareV, kindF, hp, hvk0, hk, idxN, parted, Int.reduceEq, decide_true, decide_false, cond_true, cond_false, Bool.not_true, Bool.not_false, Bool.true_and, Bool.false_and, Bool.and_true, Bool.and_false, Bool.true_or, Bool.false_or, Bool.or_true, Bool.or_false, Bool.not_not, Bool.and_self, Bool.or_self] at hR
  simp only [ac37, valv_eq, hvk0, awH, ↓awD, awP, Nat.reduceLeDiff, Nat.reduceEqDiff, Nat.reduceAdd, Int.reduceLT, Int.reduceLE, Int.reduceEq]
  repeat' (first | ((try refine Need.mk (by first | (first | omega | (simp only [awO] at *; omega) | (simp; omega)) | (constructor <;> (first | omega | (simp only [awO] at *; omega) | (simp; omega)))) ?_); refine Elem.recs hgd (by first | (rw [dscv_eq]; exact ⟨rfl, rfl⟩) | exact ⟨rfl, rfl⟩) ?_; simp only [dscv_eq, hk, idxN, hpl, aw21, awH, ↓awD, awP, Nat.reduceLeDiff, Nat.reduceEqDiff, Nat.reduceAdd, Int.reduceLT, Int.reduceLE, Int.reduceEq]))
  repeat' (first | ((first | refine EvF.ret (hpt _) ?_ | refine EvRF.ret (hpt _) ?_); simp only [hk, idxN, hpl, n0, l0, aw21, awH, ↓awD, awP, Nat.reduceLeDiff, Nat.reduceEqDiff, Nat.reduceAdd, Int.reduceLT, Int.reduceLE, Int.reduceEq]) | ((first | refine EvF.ret (hc2 _) ?_ | refine EvRF.ret (hc2 _) ?_); simp only [hk, idxN, hpl, n0, l0, aw21, awH, ↓awD, awP, Nat.reduceLeDiff, Nat.reduceEqDiff, Nat.reduceAdd, Int.reduceLT, Int.reduceLE, Int.reduceEq]) | ((first | refine EvF.ret (hs1 _) ?_ | refine EvRF.ret (hs1 _) ?_); simp only [hk, idxN, hpl, n0, l0, aw21, awH, ↓awD, awP, Nat.reduceLeDiff, Nat.reduceEqDiff, Nat.reduceAdd, Int.reduceLT, Int.reduceLE, Int.reduceEq]) | (refine BrF.mk (fun hb => ?_) (fun hb => ?_) <;> (try rw [hb]) <;> simp only [hk, idxN, hpl, n0, l0, aw21, awH, ↓awD, awP, Nat.reduceLeDiff, Nat.reduceEqDiff, Nat.reduceAdd, Int.reduceLT, Int.reduceLE, Int.reduceEq]))
  all_goals (refine Fin.end hcl rfl (by first | rfl | exact (List.append_nil _).symm | (simp only [List.append_assoc]; rfl)) ⟨?_, rfl⟩; rw [← hR]; clear hR hR0 hcl hpt hha hn1 hn2 hc1 hc2 hs1 hpl hgd; first | (simp only [*, Bool.not_true, Bool.not_false, Bool.true_and, Bool.false_and, Bool.and_true, Bool.and_false, Bool.true_or, Bool.false_or, Bool.or_true, Bool.or_false, Bool.not_not, Bool.and_self, Bool.or_self]; done) | (simp_all; done) | skip)

set_option maxHeartbeats 8000000 in
theorem rof_k7 (d : List Dsc) (hBD : ∀ r, r ∈ d → BD (2 ^ 30) r) (n : Nat) (r : Dsc) (hr : d[n]? = some r) (hal : alphaT r.frm = true) (room : Nat) (hroom : room ≤ 40) (v : Val) (hv : mxV v ≤ 2 ^ 48) (B : Int → Val → Bool) (z : Bool) (hkk : v.kind = r.kind) (hk : r.kind = 7) (h : List AObj) :
    EvR E0 37 [dscl d, i64 n, valv v, i64 room] h (boolv (hasF B z r v)) := by
  have hp : parted r.kind = false := by rw [hk]; decide
  have hm := hBD r (List.mem_of_getElem? hr)
  have hV := mxV_le v
  have l1 := mxB_len v.names
  have l3 := mxVs_len v.l
  have hnl : n < d.length := (List.getElem?_eq_some_iff.1 hr).1
  have hgd := map_get dscv d n r hr
  have hpl := hpl h
  have hpt := fun h => rparted_ev r.kind h
  rw [hp] at hpt
  have hha := fun h => rhas_ev r.set v.n (by have := hm.1; omega) h
  have hn1 := fun h => rhasS_ev r.names v.s (by have := hm.2.2.1; omega) h
  have hn2 := fun h => rhasS_ev r.more v.s (by have := hm.2.2.2.1; omega) h
  have hc1 := fun h => rchars_ev v.s r.frm (by omega) (by have := hm.2.1; omega) h
  have hc2 := fun h => rchars_ev v.s ⟨#[48, 49]⟩ (by omega) (by decide) h
  have hs1 := fun h => rsize_ev r v.s.size (by have := hm.1; omega) h
  rw [chars_text hal] at hc1
  rw [chars_01] at hc2
  simp only [dscv_eq] at hs1
  have n0 : decide ((0 : Int) < (v.names.length : Int)) = !decide (v.names.length = 0) := by rw [Bool.eq_iff_iff, Bool.not_eq_true', decide_eq_true_eq, decide_eq_false_iff_not]; omega
  have l0 : decide ((0 : Int) < (v.l.length : Int)) = !decide (v.l.length = 0) := by rw [Bool.eq_iff_iff, Bool.not_eq_true', decide_eq_true_eq, decide_eq_false_iff_not]; omega
  refine ev_of (fn := Tryz.f37) (hs := []) Tryz.func37 c37 (by simp) fun hcl => ?_
  obtain ⟨R, hR0⟩ : ∃ R, hasF B z r v = R := ⟨_, rfl⟩
  rw [hR0]
  have hvk0 : v.kind = r.kind := hkk
  have idxN : ∀ (l : List ByteArray), decide ((0 : Int) ≤ idx (fun x => decide (x = v.s)) l 0) = l.any fun x => decide (v.s = x) := fun l => by rw [idx_any]; congr 1; funext x; rw [decide_eq_decide]; exact eq_comm
  have hR : hasF B z r v = R := hR0
  simp only [hk, idxN] at hpt hs1
  simp only [hasF, bareV, kindF, hp, hvk0, hk, idxN, parted, Int.reduceEq, decide_true, decide_false, cond_true, cond_false, Bool.not_true, Bool.not_false, Bool.true_and, Bool.false_and, Bool.and_true, Bool.and_false, Bool.true_or, Bool.false_or, Bool.or_true, Bool.or_false, Bool.not_not, Bool.and_self, Bool.or_self] at hR
  simp only [ac37, valv_eq, hvk0, awH, ↓awD, awP, Nat.reduceLeDiff, Nat.reduceEqDiff, Nat.reduceAdd, Int.reduceLT, Int.reduceLE, Int.reduceEq]
  repeat' (first | ((try refine Need.mk (by first | (first | omega | (simp only [awO] at *; omega) | (simp; omega)) | (constructor <;> (first | omega | (simp only [awO] at *; omega) | (simp; omega)))) ?_); refine Elem.recs hgd (by first | (rw [dscv_eq]; exact ⟨rfl, rfl⟩) | exact ⟨rfl, rfl⟩) ?_; simp only [dscv_eq, hk, idxN, hpl, aw21, awH, ↓awD, awP, Nat.reduceLeDiff, Nat.reduceEqDiff, Nat.reduceAdd, Int.reduceLT, Int.reduceLE, Int.reduceEq]))
  repeat' (first | ((first | refine EvF.ret (hpt _) ?_ | refine EvRF.ret (hpt _) ?_); simp only [hk, idxN, hpl, n0, l0, aw21, awH, ↓awD, awP, Nat.reduceLeDiff, Nat.reduceEqDiff, Nat.reduceAdd, Int.reduceLT, Int.reduceLE, Int.reduceEq]) | ((first | refine EvF.ret (hc1 _) ?_ | refine EvRF.ret (hc1 _) ?_); simp only [hk, idxN, hpl, n0, l0, aw21, awH, ↓awD, awP, Nat.reduceLeDiff, Nat.reduceEqDiff, Nat.reduceAdd, Int.reduceLT, Int.reduceLE, Int.reduceEq]) | ((first | refine EvF.ret (hs1 _) ?_ | refine EvRF.ret (hs1 _) ?_); simp only [hk, idxN, hpl, n0, l0, aw21, awH, ↓awD, awP, Nat.reduceLeDiff, Nat.reduceEqDiff, Nat.reduceAdd, Int.reduceLT, Int.reduceLE, Int.reduceEq]) | (refine BrF.mk (fun hb => ?_) (fun hb => ?_) <;> (try rw [hb]) <;> simp only [hk, idxN, hpl, n0, l0, aw21, awH, ↓awD, awP, Nat.reduceLeDiff, Nat.reduceEqDiff, Nat.reduceAdd, Int.reduceLT, Int.reduceLE, Int.reduceEq]))
  all_goals (refine Fin.end hcl rfl (by first | rfl | exact (List.append_nil _).symm | (simp only [List.append_assoc]; rfl)) ⟨?_, rfl⟩; rw [← hR]; clear hR hR0 hcl hpt hha hn1 hn2 hc1 hc2 hs1 hpl hgd; first | (simp only [*, Bool.not_true, Bool.not_false, Bool.true_and, Bool.false_and, Bool.and_true, Bool.and_false, Bool.true_or, Bool.false_or, Bool.or_true, Bool.or_false, Bool.not_not, Bool.and_self, Bool.or_self]; done) | (simp_all; done) | skip)

set_option maxHeartbeats 8000000 in
theorem rof_k3 (d : List Dsc) (hBD : ∀ r, r ∈ d → BD (2 ^ 30) r) (n : Nat) (r : Dsc) (hr : d[n]? = some r) (hal : alphaT r.frm = true) (room : Nat) (hroom : room ≤ 40) (v : Val) (hv : mxV v ≤ 2 ^ 48) (B : Int → Val → Bool) (z : Bool) (hkk : v.kind = r.kind) (hk : r.kind = 3) (h : List AObj) :
    EvR E0 37 [dscl d, i64 n, valv v, i64 room] h (boolv (hasF B z r v)) := by
  have hp : parted r.kind = false := by rw [hk]; decide
  have hm := hBD r (List.mem_of_getElem? hr)
  have hV := mxV_le v
  have l1 := mxB_len v.names
  have l3 := mxVs_len v.l
  have hnl : n < d.length := (List.getElem?_eq_some_iff.1 hr).1
  have hgd := map_get dscv d n r hr
  have hpl := hpl h
  have hpt := fun h => rparted_ev r.kind h
  rw [hp] at hpt
  have hha := fun h => rhas_ev r.set v.n (by have := hm.1; omega) h
  have hn1 := fun h => rhasS_ev r.names v.s (by have := hm.2.2.1; omega) h
  have hn2 := fun h => rhasS_ev r.more v.s (by have := hm.2.2.2.1; omega) h
  have hc1 := fun h => rchars_ev v.s r.frm (by omega) (by have := hm.2.1; omega) h
  have hc2 := fun h => rchars_ev v.s ⟨#[48, 49]⟩ (by omega) (by decide) h
  have hs1 := fun h => rsize_ev r v.s.size (by have := hm.1; omega) h
  rw [chars_text hal] at hc1
  rw [chars_01] at hc2
  simp only [dscv_eq] at hs1
  have n0 : decide ((0 : Int) < (v.names.length : Int)) = !decide (v.names.length = 0) := by rw [Bool.eq_iff_iff, Bool.not_eq_true', decide_eq_true_eq, decide_eq_false_iff_not]; omega
  have l0 : decide ((0 : Int) < (v.l.length : Int)) = !decide (v.l.length = 0) := by rw [Bool.eq_iff_iff, Bool.not_eq_true', decide_eq_true_eq, decide_eq_false_iff_not]; omega
  refine ev_of (fn := Tryz.f37) (hs := []) Tryz.func37 c37 (by simp) fun hcl => ?_
  obtain ⟨R, hR0⟩ : ∃ R, hasF B z r v = R := ⟨_, rfl⟩
  rw [hR0]
  have hvk0 : v.kind = r.kind := hkk
  have idxN : ∀ (l : List ByteArray), decide ((0 : Int) ≤ idx (fun x => decide (x = v.s)) l 0) = l.any fun x => decide (v.s = x) := fun l => by rw [idx_any]; congr 1; funext x; rw [decide_eq_decide]; exact eq_comm
  have hR : hasF B z r v = R := hR0
  simp only [hk, idxN] at hpt hs1
  simp only [hasF, bareV, kindF, hp, hvk0, hk, idxN, parted, Int.reduceEq, decide_true, decide_false, cond_true, cond_false, Bool.not_true, Bool.not_false, Bool.true_and, Bool.false_and, Bool.and_true, Bool.and_false, Bool.true_or, Bool.false_or, Bool.or_true, Bool.or_false, Bool.not_not, Bool.and_self, Bool.or_self] at hR
  simp only [ac37, valv_eq, hvk0, awH, ↓awD, awP, Nat.reduceLeDiff, Nat.reduceEqDiff, Nat.reduceAdd, Int.reduceLT, Int.reduceLE, Int.reduceEq]
  repeat' (first | ((try refine Need.mk (by first | (first | omega | (simp only [awO] at *; omega) | (simp; omega)) | (constructor <;> (first | omega | (simp only [awO] at *; omega) | (simp; omega)))) ?_); refine Elem.recs hgd (by first | (rw [dscv_eq]; exact ⟨rfl, rfl⟩) | exact ⟨rfl, rfl⟩) ?_; simp only [dscv_eq, hk, idxN, hpl, aw21, awH, ↓awD, awP, Nat.reduceLeDiff, Nat.reduceEqDiff, Nat.reduceAdd, Int.reduceLT, Int.reduceLE, Int.reduceEq]))
  repeat' (first | ((first | refine EvF.ret (hpt _) ?_ | refine EvRF.ret (hpt _) ?_); simp only [hk, idxN, hpl, n0, l0, aw21, awH, ↓awD, awP, Nat.reduceLeDiff, Nat.reduceEqDiff, Nat.reduceAdd, Int.reduceLT, Int.reduceLE, Int.reduceEq]) | ((first | refine EvF.ret (hn1 _) ?_ | refine EvRF.ret (hn1 _) ?_); simp only [hk, idxN, hpl, n0, l0, aw21, awH, ↓awD, awP, Nat.reduceLeDiff, Nat.reduceEqDiff, Nat.reduceAdd, Int.reduceLT, Int.reduceLE, Int.reduceEq]) | ((first | refine EvF.ret (hn2 _) ?_ | refine EvRF.ret (hn2 _) ?_); simp only [hk, idxN, hpl, n0, l0, aw21, awH, ↓awD, awP, Nat.reduceLeDiff, Nat.reduceEqDiff, Nat.reduceAdd, Int.reduceLT, Int.reduceLE, Int.reduceEq]) | (refine BrF.mk (fun hb => ?_) (fun hb => ?_) <;> (try rw [hb]) <;> simp only [hk, idxN, hpl, n0, l0, aw21, awH, ↓awD, awP, Nat.reduceLeDiff, Nat.reduceEqDiff, Nat.reduceAdd, Int.reduceLT, Int.reduceLE, Int.reduceEq]))
  all_goals (refine Fin.end hcl rfl (by first | rfl | exact (List.append_nil _).symm | (simp only [List.append_assoc]; rfl)) ⟨?_, rfl⟩; rw [← hR]; clear hR hR0 hcl hpt hha hn1 hn2 hc1 hc2 hs1 hpl hgd; first | (simp only [*, Bool.not_true, Bool.not_false, Bool.true_and, Bool.false_and, Bool.and_true, Bool.and_false, Bool.true_or, Bool.false_or, Bool.or_true, Bool.or_false, Bool.not_not, Bool.and_self, Bool.or_self]; done) | (simp_all; done) | skip)

set_option maxHeartbeats 8000000 in
theorem rof_k4 (d : List Dsc) (hBD : ∀ r, r ∈ d → BD (2 ^ 30) r) (n : Nat) (r : Dsc) (hr : d[n]? = some r) (hal : alphaT r.frm = true) (room : Nat) (hroom : room ≤ 40) (v : Val) (hv : mxV v ≤ 2 ^ 48) (B : Int → Val → Bool) (z : Bool) (hkk : v.kind = r.kind) (hk : r.kind = 4) (h : List AObj) :
    EvR E0 37 [dscl d, i64 n, valv v, i64 room] h (boolv (hasF B z r v)) := by
  have hp : parted r.kind = false := by rw [hk]; decide
  have hm := hBD r (List.mem_of_getElem? hr)
  have hV := mxV_le v
  have l1 := mxB_len v.names
  have l3 := mxVs_len v.l
  have hnl : n < d.length := (List.getElem?_eq_some_iff.1 hr).1
  have hgd := map_get dscv d n r hr
  have hpl := hpl h
  have hpt := fun h => rparted_ev r.kind h
  rw [hp] at hpt
  have hha := fun h => rhas_ev r.set v.n (by have := hm.1; omega) h
  have hn1 := fun h => rhasS_ev r.names v.s (by have := hm.2.2.1; omega) h
  have hn2 := fun h => rhasS_ev r.more v.s (by have := hm.2.2.2.1; omega) h
  have hc1 := fun h => rchars_ev v.s r.frm (by omega) (by have := hm.2.1; omega) h
  have hc2 := fun h => rchars_ev v.s ⟨#[48, 49]⟩ (by omega) (by decide) h
  have hs1 := fun h => rsize_ev r v.s.size (by have := hm.1; omega) h
  rw [chars_text hal] at hc1
  rw [chars_01] at hc2
  simp only [dscv_eq] at hs1
  have n0 : decide ((0 : Int) < (v.names.length : Int)) = !decide (v.names.length = 0) := by rw [Bool.eq_iff_iff, Bool.not_eq_true', decide_eq_true_eq, decide_eq_false_iff_not]; omega
  have l0 : decide ((0 : Int) < (v.l.length : Int)) = !decide (v.l.length = 0) := by rw [Bool.eq_iff_iff, Bool.not_eq_true', decide_eq_true_eq, decide_eq_false_iff_not]; omega
  refine ev_of (fn := Tryz.f37) (hs := []) Tryz.func37 c37 (by simp) fun hcl => ?_
  obtain ⟨R, hR0⟩ : ∃ R, hasF B z r v = R := ⟨_, rfl⟩
  rw [hR0]
  have hvk0 : v.kind = r.kind := hkk
  have idxN : ∀ (l : List ByteArray), decide ((0 : Int) ≤ idx (fun x => decide (x = v.s)) l 0) = l.any fun x => decide (v.s = x) := fun l => by rw [idx_any]; congr 1; funext x; rw [decide_eq_decide]; exact eq_comm
  have hR : hasF B z r v = R := hR0
  simp only [hk, idxN] at hpt hs1
  simp only [hasF, bareV, kindF, hp, hvk0, hk, idxN, parted, Int.reduceEq, decide_true, decide_false, cond_true, cond_false, Bool.not_true, Bool.not_false, Bool.true_and, Bool.false_and, Bool.and_true, Bool.and_false, Bool.true_or, Bool.false_or, Bool.or_true, Bool.or_false, Bool.not_not, Bool.and_self, Bool.or_self] at hR
  simp only [ac37, valv_eq, hvk0, awH, ↓awD, awP, Nat.reduceLeDiff, Nat.reduceEqDiff, Nat.reduceAdd, Int.reduceLT, Int.reduceLE, Int.reduceEq]
  repeat' (first | ((try refine Need.mk (by first | (first | omega | (simp only [awO] at *; omega) | (simp; omega)) | (constructor <;> (first | omega | (simp only [awO] at *; omega) | (simp; omega)))) ?_); refine Elem.recs hgd (by first | (rw [dscv_eq]; exact ⟨rfl, rfl⟩) | exact ⟨rfl, rfl⟩) ?_; simp only [dscv_eq, hk, idxN, hpl, aw21, awH, ↓awD, awP, Nat.reduceLeDiff, Nat.reduceEqDiff, Nat.reduceAdd, Int.reduceLT, Int.reduceLE, Int.reduceEq]))
  repeat' (first | ((first | refine EvF.ret (hpt _) ?_ | refine EvRF.ret (hpt _) ?_); simp only [hk, idxN, hpl, n0, l0, aw21, awH, ↓awD, awP, Nat.reduceLeDiff, Nat.reduceEqDiff, Nat.reduceAdd, Int.reduceLT, Int.reduceLE, Int.reduceEq]) | fail | (refine BrF.mk (fun hb => ?_) (fun hb => ?_) <;> (try rw [hb]) <;> simp only [hk, idxN, hpl, n0, l0, aw21, awH, ↓awD, awP, Nat.reduceLeDiff, Nat.reduceEqDiff, Nat.reduceAdd, Int.reduceLT, Int.reduceLE, Int.reduceEq]))
  all_goals (refine Fin.end hcl rfl (by first | rfl | exact (List.append_nil _).symm | (simp only [List.append_assoc]; rfl)) ⟨?_, rfl⟩; rw [← hR]; clear hR hR0 hcl hpt hha hn1 hn2 hc1 hc2 hs1 hpl hgd; first | (simp only [*, Bool.not_true, Bool.not_false, Bool.true_and, Bool.false_and, Bool.and_true, Bool.and_false, Bool.true_or, Bool.false_or, Bool.or_true, Bool.or_false, Bool.not_not, Bool.and_self, Bool.or_self]; done) | (simp_all; done) | skip)

set_option maxHeartbeats 8000000 in
theorem rof_no (d : List Dsc) (n : Nat) (r : Dsc) (hr : d[n]? = some r) (room : Nat) (hroom : room ≤ 40) (v : Val) (hno : (decide (room = 0) && parted r.kind || !decide (v.kind = r.kind)) = true) (h : List AObj) :
    EvR E0 37 [dscl d, i64 n, valv v, i64 room] h (boolv false) := by
  have hnl : n < d.length := (List.getElem?_eq_some_iff.1 hr).1
  have hgd := map_get dscv d n r hr
  have hpl := hpl h
  have hpt := fun h => rparted_ev r.kind h
  have d0 : decide ((room : Int) = 0) = decide (room = 0) := by rw [decide_eq_decide]; omega
  refine ev_of (fn := Tryz.f37) (hs := []) Tryz.func37 c37 (by simp) fun hcl => ?_
  cases hz : decide (room = 0)
  · have hk : decide (v.kind = r.kind) = false := by simpa [hz] using hno
    simp only [ac37, valv_eq, d0, hz, awH, ↓awD, awP, Nat.reduceLeDiff, Nat.reduceEqDiff, Nat.reduceAdd, Int.reduceLT, Int.reduceLE, Int.reduceEq]
    repeat' (first | ((try refine Need.mk (by first | (first | omega | (simp only [awO] at *; omega) | (simp; omega)) | (constructor <;> (first | omega | (simp only [awO] at *; omega) | (simp; omega)))) ?_); refine Elem.recs hgd (by first | (rw [dscv_eq]; exact ⟨rfl, rfl⟩) | exact ⟨rfl, rfl⟩) ?_; simp only [dscv_eq, hk, hpl, d0, hz, aw21, awH, ↓awD, awP, Nat.reduceLeDiff, Nat.reduceEqDiff, Nat.reduceAdd, Int.reduceLT, Int.reduceLE, Int.reduceEq]))
    exact Fin.end hcl rfl (by first | rfl | exact (List.append_nil _).symm | (simp only [List.append_assoc]; rfl)) ⟨rfl, rfl⟩
  · cases hp : parted r.kind
    · have hk : decide (v.kind = r.kind) = false := by simpa [hz, hp] using hno
      rw [hp] at hpt
      simp only [ac37, valv_eq, d0, hz, awH, ↓awD, awP, Nat.reduceLeDiff, Nat.reduceEqDiff, Nat.reduceAdd, Int.reduceLT, Int.reduceLE, Int.reduceEq]
      repeat' (first | ((try refine Need.mk (by first | (first | omega | (simp only [awO] at *; omega) | (simp; omega)) | (constructor <;> (first | omega | (simp only [awO] at *; omega) | (simp; omega)))) ?_); refine Elem.recs hgd (by first | (rw [dscv_eq]; exact ⟨rfl, rfl⟩) | exact ⟨rfl, rfl⟩) ?_; simp only [dscv_eq, hk, hpl, d0, hz, aw21, awH, ↓awD, awP, Nat.reduceLeDiff, Nat.reduceEqDiff, Nat.reduceAdd, Int.reduceLT, Int.reduceLE, Int.reduceEq]))
      repeat' (first | ((first | refine EvF.ret (hpt _) ?_ | refine EvRF.ret (hpt _) ?_); simp only [hk, hpl, d0, hz, aw21, awH, ↓awD, awP, Nat.reduceLeDiff, Nat.reduceEqDiff, Nat.reduceAdd, Int.reduceLT, Int.reduceLE, Int.reduceEq]))
      exact Fin.end hcl rfl (by first | rfl | exact (List.append_nil _).symm | (simp only [List.append_assoc]; rfl)) ⟨rfl, rfl⟩
    · rw [hp] at hpt
      simp only [ac37, valv_eq, d0, hz, awH, ↓awD, awP, Nat.reduceLeDiff, Nat.reduceEqDiff, Nat.reduceAdd, Int.reduceLT, Int.reduceLE, Int.reduceEq]
      repeat' (first | ((try refine Need.mk (by first | (first | omega | (simp only [awO] at *; omega) | (simp; omega)) | (constructor <;> (first | omega | (simp only [awO] at *; omega) | (simp; omega)))) ?_); refine Elem.recs hgd (by first | (rw [dscv_eq]; exact ⟨rfl, rfl⟩) | exact ⟨rfl, rfl⟩) ?_; simp only [dscv_eq, hpl, d0, hz, aw21, awH, ↓awD, awP, Nat.reduceLeDiff, Nat.reduceEqDiff, Nat.reduceAdd, Int.reduceLT, Int.reduceLE, Int.reduceEq]))
      repeat' (first | ((first | refine EvF.ret (hpt _) ?_ | refine EvRF.ret (hpt _) ?_); simp only [hpl, d0, hz, aw21, awH, ↓awD, awP, Nat.reduceLeDiff, Nat.reduceEqDiff, Nat.reduceAdd, Int.reduceLT, Int.reduceLE, Int.reduceEq]))
      exact Fin.end hcl rfl (by first | rfl | exact (List.append_nil _).symm | (simp only [List.append_assoc]; rfl)) ⟨rfl, rfl⟩

set_option maxHeartbeats 8000000 in
theorem rof_k8 (d : List Dsc) (n : Nat) (r : Dsc) (hr : d[n]? = some r) (hm : BD (2 ^ 30) r) (room : Nat) (hroom : room < 40) (v : Val) (hv : mxV v ≤ 2 ^ 48) (B : Int → Val → Bool) (hkk : v.kind = r.kind) (hk : r.kind = 8)
    (hB : ∀ f, f ∈ r.fields → ∀ x, x ∈ v.l → ∀ h, EvR E0 37 [dscl d, i64 f.t, valv x, i64 room] h (boolv (B f.t x))) (h : List AObj) :
    EvR E0 37 [dscl d, i64 n, valv v, i64 ((room + 1 : Nat) : Int)] h (boolv (hasF B false r v)) := by
  have hnl : n < d.length := (List.getElem?_eq_some_iff.1 hr).1
  have hgd := map_get dscv d n r hr
  have hpl := hpl h
  have hvk0 : v.kind = r.kind := hkk
  have hsq := fun h => rseq_ev d r room hroom v B hm hv hB h
  have e : hasF B false r v = ((decide (v.n = 0) && decide (v.s = ⟨#[]⟩)) && seqF B r v) := by
    simp only [hasF, kindF, bare8 (hkk.trans hk), hkk, hk, Int.reduceEq, decide_true, decide_false, cond_true, cond_false, Bool.false_and, Bool.not_false, Bool.true_and]
  rw [e]
  generalize ((decide (v.n = 0) && decide (v.s = ⟨#[]⟩)) && seqF B r v) = R at hsq ⊢
  have d0 : decide (((room + 1 : Nat) : Int) = 0) = false := by rw [decide_eq_false_iff_not]; omega
  simp only [dscv_eq, valv_eq, hkk, hk] at hsq
  refine ev_of (fn := Tryz.f37) (hs := []) Tryz.func37 c37 (by simp) fun hcl => ?_
  simp only [ac37, valv_eq, hvk0, d0, awH, ↓awD, awP, Nat.reduceLeDiff, Nat.reduceEqDiff, Nat.reduceAdd, Int.reduceLT, Int.reduceLE, Int.reduceEq]
  repeat' (first | ((try refine Need.mk (by first | (first | omega | (simp only [awO] at *; omega) | (simp; omega)) | (constructor <;> (first | omega | (simp only [awO] at *; omega) | (simp; omega)))) ?_); refine Elem.recs hgd (by first | (rw [dscv_eq]; exact ⟨rfl, rfl⟩) | exact ⟨rfl, rfl⟩) ?_; simp only [dscv_eq, hk, hpl, d0, aw21, awH, ↓awD, awP, Nat.reduceLeDiff, Nat.reduceEqDiff, Nat.reduceAdd, Int.reduceLT, Int.reduceLE, Int.reduceEq]))
  repeat' (first | ((first | refine EvF.ret (hsq _) ?_ | refine EvRF.ret (hsq _) ?_); simp only [hk, hpl, d0, aw21, awH, ↓awD, awP, Nat.reduceLeDiff, Nat.reduceEqDiff, Nat.reduceAdd, Int.reduceLT, Int.reduceLE, Int.reduceEq]))
  exact Fin.end hcl rfl (by first | rfl | exact (List.append_nil _).symm | (simp only [List.append_assoc]; rfl)) ⟨rfl, rfl⟩

set_option maxHeartbeats 8000000 in
theorem rof_k9 (d : List Dsc) (n : Nat) (r : Dsc) (hr : d[n]? = some r) (hm : BD (2 ^ 30) r) (room : Nat) (hroom : room < 40) (v : Val) (hv : mxV v ≤ 2 ^ 48) (B : Int → Val → Bool) (hkk : v.kind = r.kind) (hk : r.kind = 9)
    (hB : ∀ x, x ∈ v.l → ∀ h, EvR E0 37 [dscl d, i64 r.elem, valv x, i64 room] h (boolv (B r.elem x))) (h : List AObj) :
    EvR E0 37 [dscl d, i64 n, valv v, i64 ((room + 1 : Nat) : Int)] h (boolv (hasF B false r v)) := by
  have hnl : n < d.length := (List.getElem?_eq_some_iff.1 hr).1
  have hgd := map_get dscv d n r hr
  have hpl := hpl h
  have hV := mxV_le v
  have l1 := mxB_len v.names
  have l3 := mxVs_len v.l
  have hvk0 : v.kind = r.kind := hkk
  have e : hasF B false r v = ((decide (v.n = 0) && (decide (v.names.length = 0) && decide (v.s = ⟨#[]⟩))) && (v.l.all (B r.elem) && sizedOk r v.l.length)) := by
    simp only [hasF, kindF, bare9 (hkk.trans hk), hkk, hk, Int.reduceEq, decide_true, decide_false, cond_true, cond_false, Bool.false_and, Bool.not_false, Bool.true_and]
    have : (!v.l.any fun x => !B r.elem x) = v.l.all (B r.elem) := by rw [List.any_eq_not_all_not]; simp
    rw [this, Bool.and_comm (sizedOk r _), Bool.and_assoc (decide (v.n = 0)), Bool.and_comm (decide (v.s = _))]
  rw [e]
  have d0 : decide (((room + 1 : Nat) : Int) = 0) = false := by rw [decide_eq_false_iff_not]; omega
  have wr : IntKind.i64.wrap (((room + 1 : Nat) : Int) - 1) = (room : Int) := by rw [wrap_i64] <;> omega
  have n0 : decide ((0 : Int) < (v.names.length : Int)) = !decide (v.names.length = 0) := by rw [Bool.eq_iff_iff, Bool.not_eq_true', decide_eq_true_eq, decide_eq_false_iff_not]; omega
  refine ev_of (fn := Tryz.f37) (hs := []) Tryz.func37 c37 (by simp) fun hcl => ?_
  cases hbl : decide ((0 : Int) < (v.l.length : Int))
  all_goals
    cases b2 : decide (v.names.length = 0)
    · rw [b2] at n0
      simp only [ac37, valv_eq, hvk0, d0, hbl, n0, awH, ↓awD, awP, Nat.reduceLeDiff, Nat.reduceEqDiff, Nat.reduceAdd, Int.reduceLT, Int.reduceLE, Int.reduceEq]
      repeat' (first | ((try refine Need.mk (by first | (first | omega | (simp only [awO] at *; omega) | (simp; omega)) | (constructor <;> (first | omega | (simp only [awO] at *; omega) | (simp; omega)))) ?_); refine Elem.recs hgd (by first | (rw [dscv_eq]; exact ⟨rfl, rfl⟩) | exact ⟨rfl, rfl⟩) ?_; simp only [dscv_eq, hk, hpl, d0, hbl, n0, aw21, awH, ↓awD, awP, Nat.reduceLeDiff, Nat.reduceEqDiff, Nat.reduceAdd, Int.reduceLT, Int.reduceLE, Int.reduceEq]))
      exact Fin.end hcl rfl (by first | rfl | exact (List.append_nil _).symm | (simp only [List.append_assoc]; rfl)) ⟨by simp, rfl⟩
    cases b1 : decide (v.n = 0)
    · rw [b2] at n0
      simp only [ac37, valv_eq, hvk0, d0, hbl, n0, b1, awH, ↓awD, awP, Nat.reduceLeDiff, Nat.reduceEqDiff, Nat.reduceAdd, Int.reduceLT, Int.reduceLE, Int.reduceEq]
      repeat' (first | ((try refine Need.mk (by first | (first | omega | (simp only [awO] at *; omega) | (simp; omega)) | (constructor <;> (first | omega | (simp only [awO] at *; omega) | (simp; omega)))) ?_); refine Elem.recs hgd (by first | (rw [dscv_eq]; exact ⟨rfl, rfl⟩) | exact ⟨rfl, rfl⟩) ?_; simp only [dscv_eq, hk, hpl, d0, hbl, n0, b1, aw21, awH, ↓awD, awP, Nat.reduceLeDiff, Nat.reduceEqDiff, Nat.reduceAdd, Int.reduceLT, Int.reduceLE, Int.reduceEq]))
      exact Fin.end hcl rfl (by first | rfl | exact (List.append_nil _).symm | (simp only [List.append_assoc]; rfl)) ⟨by simp, rfl⟩
    cases b3 : decide (v.s = ⟨#[]⟩)
    · rw [b2] at n0
      simp only [ac37, valv_eq, hvk0, d0, hbl, n0, b1, b3, awH, ↓awD, awP, Nat.reduceLeDiff, Nat.reduceEqDiff, Nat.reduceAdd, Int.reduceLT, Int.reduceLE, Int.reduceEq]
      repeat' (first | ((try refine Need.mk (by first | (first | omega | (simp only [awO] at *; omega) | (simp; omega)) | (constructor <;> (first | omega | (simp only [awO] at *; omega) | (simp; omega)))) ?_); refine Elem.recs hgd (by first | (rw [dscv_eq]; exact ⟨rfl, rfl⟩) | exact ⟨rfl, rfl⟩) ?_; simp only [dscv_eq, hk, hpl, d0, hbl, n0, b1, b3, aw21, awH, ↓awD, awP, Nat.reduceLeDiff, Nat.reduceEqDiff, Nat.reduceAdd, Int.reduceLT, Int.reduceLE, Int.reduceEq]))
      exact Fin.end hcl rfl (by first | rfl | exact (List.append_nil _).symm | (simp only [List.append_assoc]; rfl)) ⟨by simp, rfl⟩
    rw [b2] at n0
    rw [Bool.and_self, Bool.and_self, Bool.true_and]
    have hs1 := fun h => rsize_ev r v.l.length (by have := hm.1; omega) h
    simp only [dscv_eq, hk] at hs1
    generalize hR : (v.l.all (B r.elem) && sizedOk r v.l.length) = R
    simp only [ac37, valv_eq, hvk0, d0, hbl, n0, b1, b3, awH, ↓awD, awP, Nat.reduceLeDiff, Nat.reduceEqDiff, Nat.reduceAdd, Int.reduceLT, Int.reduceLE, Int.reduceEq]
    repeat' (first | ((try refine Need.mk (by first | (first | omega | (simp only [awO] at *; omega) | (simp; omega)) | (constructor <;> (first | omega | (simp only [awO] at *; omega) | (simp; omega)))) ?_); refine Elem.recs hgd (by first | (rw [dscv_eq]; exact ⟨rfl, rfl⟩) | exact ⟨rfl, rfl⟩) ?_; simp only [dscv_eq, hk, hpl, d0, hbl, n0, b1, b3, aw21, awH, ↓awD, awP, Nat.reduceLeDiff, Nat.reduceEqDiff, Nat.reduceAdd, Int.reduceLT, Int.reduceLE, Int.reduceEq]))
    generalize hO : h ++ [AObj.cells [i64 9, i64 v.n, str v.s, strl v.names, vall v.l]] ++ [AObj.cells [i64 9, boolv r.ext, rgl r.set, i64 r.lo, i64 r.hi, str r.frm, strl r.names, strl r.more, fldl r.parts, fldl r.adds, intl r.order, i64 r.elem]] = H at *
    have gV : H[h.length]? = some (AObj.cells [i64 9, i64 v.n, str v.s, strl v.names, vall v.l]) := by rw [← hO]; simp
    have gR : H[h.length + 1]? = some (AObj.cells [i64 9, boolv r.ext, rgl r.set, i64 r.lo, i64 r.hi, str r.frm, strl r.names, strl r.more, fldl r.parts, fldl r.adds, intl r.order, i64 r.elem]) := by rw [← hO]; simp
    refine LoopF.list v.l (by omega) (γ := Unit) (fun i _ => ⟨[(0, dscl d), (3, i64 ((room + 1 : Nat) : Int)), (6, .ref h.length 0), (9, .ref (h.length + 1) 0), (12, i64 i)], H⟩) (fun i _ => ((v.l.drop i).all (B r.elem) && sizedOk r v.l.length) = R) () (by simpa using hR) (weak_of (by first | rfl | exact hO) (by simp [look])) ?_ ?_
    · rintro i x _ hx hv2 hi e1 w3
      rw [drop_get hx, List.all_cons] at hv2
      have hgx := map_get valv v.l i x hx
      have hBx := fun h => hB x (List.mem_of_getElem? hx) h
      simp only [valv_eq] at hBx
      simp only [e1, gV, gR, w3, awH, ↓awD, awP, Nat.reduceLeDiff, Nat.reduceEqDiff, Nat.reduceAdd, Int.reduceLT, Int.reduceLE, Int.reduceEq]
      cases hb : B r.elem x
      · rw [hb] at hBx hv2
        rw [Bool.false_and, Bool.false_and] at hv2
        subst hv2
        repeat' (first | ((try refine Need.mk (by first | (first | omega | (simp only [awO] at *; omega) | (simp; omega)) | (constructor <;> (first | omega | (simp only [awO] at *; omega) | (simp; omega)))) ?_); refine Elem.recs hgx (by first | (rw [valv_eq]; exact ⟨rfl, rfl⟩) | exact ⟨rfl, rfl⟩) ?_; simp only [valv_eq, gV, gR, w3, wr, aw21, awH, ↓awD, awP, Nat.reduceLeDiff, Nat.reduceEqDiff, Nat.reduceAdd, Int.reduceLT, Int.reduceLE, Int.reduceEq]) | ((first | refine EvF.ret (hBx _) ?_ | refine EvRF.ret (hBx _) ?_); simp only [gV, gR, w3, aw21, awH, ↓awD, awP, Nat.reduceLeDiff, Nat.reduceEqDiff, Nat.reduceAdd, Int.reduceLT, Int.reduceLE, Int.reduceEq]))
        rw [← hO]
        exact Fin.end hcl rfl (by first | rfl | exact (List.append_nil _).symm | (simp only [List.append_assoc]; rfl)) ⟨rfl, rfl⟩
      · rw [hb] at hBx hv2
        rw [Bool.true_and] at hv2
        repeat' (first | ((try refine Need.mk (by first | (first | omega | (simp only [awO] at *; omega) | (simp; omega)) | (constructor <;> (first | omega | (simp only [awO] at *; omega) | (simp; omega)))) ?_); refine Elem.recs hgx (by first | (rw [valv_eq]; exact ⟨rfl, rfl⟩) | exact ⟨rfl, rfl⟩) ?_; simp only [valv_eq, gV, gR, w3, wr, aw21, awH, ↓awD, awP, Nat.reduceLeDiff, Nat.reduceEqDiff, Nat.reduceAdd, Int.reduceLT, Int.reduceLE, Int.reduceEq]) | ((first | refine EvF.ret (hBx _) ?_ | refine EvRF.ret (hBx _) ?_); simp only [gV, gR, w3, aw21, awH, ↓awD, awP, Nat.reduceLeDiff, Nat.reduceEqDiff, Nat.reduceAdd, Int.reduceLT, Int.reduceLE, Int.reduceEq]))
        exact ⟨(i + 1, ()), ⟨hi, hv2⟩, by simp only; omega, weak_of rfl (by simp [look])⟩
    · rintro _ hv2 e1
      rw [drop_len, List.all_nil, Bool.true_and] at hv2
      rw [hv2] at hs1
      simp only [e1, gV, gR, awH, ↓awD, awP, Nat.reduceLeDiff, Nat.reduceEqDiff, Nat.reduceAdd, Int.reduceLT, Int.reduceLE, Int.reduceEq]
      repeat' (first | ((first | refine EvF.ret (hs1 _) ?_ | refine EvRF.ret (hs1 _) ?_); simp only [gV, gR, aw21, awH, ↓awD, awP, Nat.reduceLeDiff, Nat.reduceEqDiff, Nat.reduceAdd, Int.reduceLT, Int.reduceLE, Int.reduceEq]))
      rw [← hO]
      exact Fin.end hcl rfl (by first | rfl | exact (List.append_nil _).symm | (simp only [List.append_assoc]; rfl)) ⟨rfl, rfl⟩

def choL (B : Int → Val → Bool) (v : Val) (l : List Fld) : Bool := match l.find? (fun f => decide (f.name = v.s)) with | none => false | some f => decide (v.l.length = 1) && oneF B f.t v.l
set_option maxHeartbeats 8000000 in
theorem rof_k10 (d : List Dsc) (n : Nat) (r : Dsc) (hr : d[n]? = some r) (hm : BD (2 ^ 30) r) (room : Nat) (hroom : room < 40) (v : Val) (hv : mxV v ≤ 2 ^ 48) (B : Int → Val → Bool) (hkk : v.kind = r.kind) (hk : r.kind = 10)
    (hB : ∀ f, f ∈ r.fields → ∀ x, x ∈ v.l → ∀ h, EvR E0 37 [dscl d, i64 f.t, valv x, i64 room] h (boolv (B f.t x))) (h : List AObj) :
    EvR E0 37 [dscl d, i64 n, valv v, i64 ((room + 1 : Nat) : Int)] h (boolv (hasF B false r v)) := by
  have hnl : n < d.length := (List.getElem?_eq_some_iff.1 hr).1
  have hgd := map_get dscv d n r hr
  have hpl := hpl h
  have hV := mxV_le v
  have l1 := mxB_len v.names
  have l3 := mxVs_len v.l
  have hvk0 : v.kind = r.kind := hkk
  have hfl : r.parts.length + r.adds.length ≤ 2 ^ 40 := by have := hm.2.2.2.2.1; have := hm.2.2.2.2.2.1; omega
  have hf := fun h => rfields_ev r hfl h
  have hfl2 : r.fields.length < 2 ^ 60 := by simp only [Dsc.fields, List.length_append]; omega
  have e : hasF B false r v = ((decide (v.n = 0) && decide (v.names.length = 0)) && choL B v r.fields) := by
    simp only [hasF, kindF, bare10 (hkk.trans hk), hkk, hk, Int.reduceEq, decide_true, decide_false, cond_true, cond_false, Bool.false_and, Bool.not_false, Bool.true_and, choF, choL]
    congr 1
  rw [e]
  have d0 : decide (((room + 1 : Nat) : Int) = 0) = false := by rw [decide_eq_false_iff_not]; omega
  have wr : IntKind.i64.wrap (((room + 1 : Nat) : Int) - 1) = (room : Int) := by rw [wrap_i64] <;> omega
  have n0 : decide ((0 : Int) < (v.names.length : Int)) = !decide (v.names.length = 0) := by rw [Bool.eq_iff_iff, Bool.not_eq_true', decide_eq_true_eq, decide_eq_false_iff_not]; omega
  have dl : decide ((v.l.length : Int) = 1) = decide (v.l.length = 1) := by rw [decide_eq_decide]; omega
  simp only [dscv_eq, hk] at hf
  refine ev_of (fn := Tryz.f37) (hs := []) Tryz.func37 c37 (by simp) fun hcl => ?_
  cases hbl : decide ((0 : Int) < (v.l.length : Int))
  all_goals
    cases b2 : decide (v.names.length = 0)
    · rw [b2] at n0
      simp only [ac37, valv_eq, hvk0, d0, hbl, n0, awH, ↓awD, awP, Nat.reduceLeDiff, Nat.reduceEqDiff, Nat.reduceAdd, Int.reduceLT, Int.reduceLE, Int.reduceEq]
      repeat' (first | ((try refine Need.mk (by first | (first | omega | (simp only [awO] at *; omega) | (simp; omega)) | (constructor <;> (first | omega | (simp only [awO] at *; omega) | (simp; omega)))) ?_); refine Elem.recs hgd (by first | (rw [dscv_eq]; exact ⟨rfl, rfl⟩) | exact ⟨rfl, rfl⟩) ?_; simp only [dscv_eq, hk, hpl, d0, hbl, n0, aw21, awH, ↓awD, awP, Nat.reduceLeDiff, Nat.reduceEqDiff, Nat.reduceAdd, Int.reduceLT, Int.reduceLE, Int.reduceEq]))
      exact Fin.end hcl rfl (by first | rfl | exact (List.append_nil _).symm | (simp only [List.append_assoc]; rfl)) ⟨by simp, rfl⟩
    cases b1 : decide (v.n = 0)
    · rw [b2] at n0
      simp only [ac37, valv_eq, hvk0, d0, hbl, n0, b1, awH, ↓awD, awP, Nat.reduceLeDiff, Nat.reduceEqDiff, Nat.reduceAdd, Int.reduceLT, Int.reduceLE, Int.reduceEq]
      repeat' (first | ((try refine Need.mk (by first | (first | omega | (simp only [awO] at *; omega) | (simp; omega)) | (constructor <;> (first | omega | (simp only [awO] at *; omega) | (simp; omega)))) ?_); refine Elem.recs hgd (by first | (rw [dscv_eq]; exact ⟨rfl, rfl⟩) | exact ⟨rfl, rfl⟩) ?_; simp only [dscv_eq, hk, hpl, d0, hbl, n0, b1, aw21, awH, ↓awD, awP, Nat.reduceLeDiff, Nat.reduceEqDiff, Nat.reduceAdd, Int.reduceLT, Int.reduceLE, Int.reduceEq]))
      exact Fin.end hcl rfl (by first | rfl | exact (List.append_nil _).symm | (simp only [List.append_assoc]; rfl)) ⟨by simp, rfl⟩
    rw [b2] at n0
    rw [Bool.and_self, Bool.true_and]
    generalize hR : choL B v r.fields = R
    cases bs : decide (v.s = ⟨#[]⟩)
    all_goals
      simp only [ac37, valv_eq, hvk0, d0, hbl, n0, b1, awH, ↓awD, awP, Nat.reduceLeDiff, Nat.reduceEqDiff, Nat.reduceAdd, Int.reduceLT, Int.reduceLE, Int.reduceEq]
      repeat' (first | ((try refine Need.mk (by first | (first | omega | (simp only [awO] at *; omega) | (simp; omega)) | (constructor <;> (first | omega | (simp only [awO] at *; omega) | (simp; omega)))) ?_); refine Elem.recs hgd (by first | (rw [dscv_eq]; exact ⟨rfl, rfl⟩) | exact ⟨rfl, rfl⟩) ?_; simp only [dscv_eq, hk, hpl, d0, hbl, n0, b1, bs, aw21, awH, ↓awD, awP, Nat.reduceLeDiff, Nat.reduceEqDiff, Nat.reduceAdd, Int.reduceLT, Int.reduceLE, Int.reduceEq]))
      ((first | refine EvF.ret (hf _) ?_ | refine EvRF.ret (hf _) ?_); simp only [hk, hpl, aw21, awH, ↓awD, awP, Nat.reduceLeDiff, Nat.reduceEqDiff, Nat.reduceAdd, Int.reduceLT, Int.reduceLE, Int.reduceEq])
      generalize hO : h ++ [AObj.cells [i64 10, i64 v.n, str v.s, strl v.names, vall v.l]] ++ [AObj.cells [i64 10, boolv r.ext, rgl r.set, i64 r.lo, i64 r.hi, str r.frm, strl r.names, strl r.more, fldl r.parts, fldl r.adds, intl r.order, i64 r.elem]] = H at *
      have gV : H[h.length]? = some (AObj.cells [i64 10, i64 v.n, str v.s, strl v.names, vall v.l]) := by rw [← hO]; simp
      have gR : H[h.length + 1]? = some (AObj.cells [i64 10, boolv r.ext, rgl r.set, i64 r.lo, i64 r.hi, str r.frm, strl r.names, strl r.more, fldl r.parts, fldl r.adds, intl r.order, i64 r.elem]) := by rw [← hO]; simp
      refine LoopF.list r.fields hfl2 (γ := Unit) (fun i _ => ⟨[(0, dscl d), (3, i64 ((room + 1 : Nat) : Int)), (6, .ref h.length 0), (10, fldl r.fields), (11, i64 i)], H⟩) (fun i _ => choL B v (r.fields.drop i) = R) () (by simpa using hR) (weak_of (by first | rfl | exact hO) (by simp [look])) ?_ ?_
      · rintro i f _ hfi hv2 hi e1 w3
        rw [drop_get hfi] at hv2
        have hgf := map_get fldv r.fields i f hfi
        simp only [e1, gV, gR, w3, awH, ↓awD, awP, Nat.reduceLeDiff, Nat.reduceEqDiff, Nat.reduceAdd, Int.reduceLT, Int.reduceLE, Int.reduceEq]
        cases hfn : decide (f.name = v.s)
        · have hv2 : choL B v (r.fields.drop (i + 1)) = R := by rw [← hv2]; simp only [choL, List.find?_cons, hfn]
          repeat' (first | ((try refine Need.mk (by first | (first | omega | (simp only [awO] at *; omega) | (simp; omega)) | (constructor <;> (first | omega | (simp only [awO] at *; omega) | (simp; omega)))) ?_); refine Elem.recs hgf (by first | (rw [fldv_eq]; exact ⟨rfl, rfl⟩) | exact ⟨rfl, rfl⟩) ?_; simp only [fldv_eq, gV, gR, w3, hfn, aw21, awH, ↓awD, awP, Nat.reduceLeDiff, Nat.reduceEqDiff, Nat.reduceAdd, Int.reduceLT, Int.reduceLE, Int.reduceEq]))
          exact ⟨(i + 1, ()), ⟨hi, hv2⟩, by simp only; omega, weak_of rfl (by simp [look])⟩
        · have hv2 : (decide (v.l.length = 1) && oneF B f.t v.l) = R := by rw [← hv2]; simp only [choL, List.find?_cons, hfn]
          cases hl1 : decide (v.l.length = 1)
          · rw [hl1, Bool.false_and] at hv2
            rw [hl1] at dl
            subst hv2
            repeat' (first | ((try refine Need.mk (by first | (first | omega | (simp only [awO] at *; omega) | (simp; omega)) | (constructor <;> (first | omega | (simp only [awO] at *; omega) | (simp; omega)))) ?_); refine Elem.recs hgf (by first | (rw [fldv_eq]; exact ⟨rfl, rfl⟩) | exact ⟨rfl, rfl⟩) ?_; simp only [fldv_eq, gV, gR, w3, hfn, dl, aw21, awH, ↓awD, awP, Nat.reduceLeDiff, Nat.reduceEqDiff, Nat.reduceAdd, Int.reduceLT, Int.reduceLE, Int.reduceEq]))
            rw [← hO]
            exact Fin.end hcl rfl (by first | rfl | exact (List.append_nil _).symm | (simp only [List.append_assoc]; rfl)) ⟨rfl, rfl⟩
          · rw [hl1, Bool.true_and] at hv2
            rw [hl1] at dl
            obtain ⟨y, hy⟩ : ∃ y, v.l = [y] := List.length_eq_one_iff.1 (of_decide_eq_true hl1)
            have hBy := fun h => hB f (List.mem_of_getElem? hfi) y (by rw [hy]; exact List.mem_cons_self) h
            have hgy : (v.l.map valv)[0]? = some (valv y) := by rw [hy]; rfl
            have hv2 : B f.t y = R := by rw [← hv2, hy]; rfl
            rw [hv2] at hBy
            have hll : v.l.length = 1 := of_decide_eq_true hl1
            simp only [valv_eq] at hBy
            repeat' (first | ((try refine Need.mk (by first | (first | omega | (simp only [awO] at *; omega) | (simp; omega)) | (constructor <;> (first | omega | (simp only [awO] at *; omega) | (simp; omega)))) ?_); refine Elem.recs hgf (by first | (rw [fldv_eq]; exact ⟨rfl, rfl⟩) | exact ⟨rfl, rfl⟩) ?_; simp only [fldv_eq, gV, gR, w3, hfn, dl, wr, aw21, awH, ↓awD, awP, Nat.reduceLeDiff, Nat.reduceEqDiff, Nat.reduceAdd, Int.reduceLT, Int.reduceLE, Int.reduceEq]) | ((try refine Need.mk (by first | (first | omega | (simp only [awO] at *; omega) | (simp; omega)) | (constructor <;> (first | omega | (simp only [awO] at *; omega) | (simp; omega)))) ?_); refine Elem.recs hgy (by first | (rw [valv_eq]; exact ⟨rfl, rfl⟩) | exact ⟨rfl, rfl⟩) ?_; simp only [valv_eq, gV, gR, w3, hfn, dl, wr, aw21, awH, ↓awD, awP, Nat.reduceLeDiff, Nat.reduceEqDiff, Nat.reduceAdd, Int.reduceLT, Int.reduceLE, Int.reduceEq]) | ((first | refine EvF.ret (hBy _) ?_ | refine EvRF.ret (hBy _) ?_); simp only [gV, gR, w3, aw21, awH, ↓awD, awP, Nat.reduceLeDiff, Nat.reduceEqDiff, Nat.reduceAdd, Int.reduceLT, Int.reduceLE, Int.reduceEq]))
            rw [← hO]
            exact Fin.end hcl rfl (by first | rfl | exact (List.append_nil _).symm | (simp only [List.append_assoc]; rfl)) ⟨rfl, rfl⟩
      · rintro _ hv2 e1
        rw [drop_len] at hv2
        have hv2 : false = R := hv2
        subst hv2
        simp only [e1, gV, gR, awH, ↓awD, awP, Nat.reduceLeDiff, Nat.reduceEqDiff, Nat.reduceAdd, Int.reduceLT, Int.reduceLE, Int.reduceEq]
        rw [← hO]
        exact Fin.end hcl rfl (by first | rfl | exact (List.append_nil _).symm | (simp only [List.append_assoc]; rfl)) ⟨rfl, rfl⟩

theorem row_kinds {d : List Dsc} (h : tabT d = true) : ∀ r, r ∈ d → alphaT r.frm = true ∧ 1 ≤ r.kind ∧ r.kind ≤ 10 := by
  intro r hr
  simp only [tabT, Bool.and_eq_true, decide_eq_true_eq, Bool.not_eq_true', List.any_eq_false, Bool.not_eq_false] at h
  have h := h.2.2 r hr
  simp only [rowT, rowT1, rowT2, rowT3, rowT4, bifF, Bool.and_eq_true, Bool.not_eq_true', Bool.or_eq_false_iff, Bool.not_eq_false', Bool.not_not, decide_eq_false_iff_not] at h
  exact ⟨h.2.1.1, by omega, by omega⟩
theorem rof_row {d : List Dsc} (hBD : ∀ r, r ∈ d → BD (2 ^ 30) r) (htab : tabT d = true) {n : Nat} {r : Dsc} (hr : d[n]? = some r) (room : Nat) (hroom : room ≤ 40) (v : Val) (hv : mxV v ≤ 2 ^ 48) (B : Int → Val → Bool)
    (hB : ∀ k, room = k + 1 → ∀ t, inT d t → ∀ x, x ∈ v.l → ∀ h, EvR E0 37 [dscl d, i64 t, valv x, i64 k] h (boolv (B t x))) (h : List AObj) :
    EvR E0 37 [dscl d, i64 n, valv v, i64 room] h (boolv (hasF B (decide (room = 0)) r v)) := by
  have hrm := List.mem_of_getElem? hr
  have hm := hBD r hrm
  obtain ⟨hal, hk1, hk2⟩ := row_kinds htab r hrm
  have hro := (rows_ok htab).1 r hrm
  cases hno : (decide (room = 0) && parted r.kind || !decide (v.kind = r.kind))
  · simp only [Bool.or_eq_false_iff, Bool.not_eq_false', decide_eq_true_eq] at hno
    obtain ⟨hz, hkk⟩ := hno
    have hcase : r.kind = 1 ∨ r.kind = 2 ∨ r.kind = 3 ∨ r.kind = 4 ∨ r.kind = 5 ∨ r.kind = 6 ∨ r.kind = 7 ∨ r.kind = 8 ∨ r.kind = 9 ∨ r.kind = 10 := by omega
    have hsucc : parted r.kind = true → ∃ k, room = k + 1 := fun hp => by
      rw [hp, Bool.and_true, decide_eq_false_iff_not] at hz
      exact ⟨room - 1, by omega⟩
    rcases hcase with hk | hk | hk | hk | hk | hk | hk | hk | hk | hk
    · exact rof_k1 d hBD n r hr hal room hroom v hv B _ hkk hk h
    · exact rof_k2 d hBD n r hr hal room hroom v hv B _ hkk hk h
    · exact rof_k3 d hBD n r hr hal room hroom v hv B _ hkk hk h
    · exact rof_k4 d hBD n r hr hal room hroom v hv B _ hkk hk h
    · exact rof_k5 d hBD n r hr hal room hroom v hv B _ hkk hk h
    · exact rof_k6 d hBD n r hr hal room hroom v hv B _ hkk hk h
    · exact rof_k7 d hBD n r hr hal room hroom v hv B _ hkk hk h
    · obtain ⟨k, rfl⟩ := hsucc (by rw [hk]; decide)
      exact rof_k8 d n r hr hm k (by omega) v hv B hkk hk (fun f hf x hx h => hB k rfl f.t (hro.1 f hf) x hx h) h
    · obtain ⟨k, rfl⟩ := hsucc (by rw [hk]; decide)
      exact rof_k9 d n r hr hm k (by omega) v hv B hkk hk (fun x hx h => hB k rfl r.elem hro.2 x hx h) h
    · obtain ⟨k, rfl⟩ := hsucc (by rw [hk]; decide)
      exact rof_k10 d n r hr hm k (by omega) v hv B hkk hk (fun f hf x hx h => hB k rfl f.t (hro.1 f hf) x hx h) h
  · have e : hasF B (decide (room = 0)) r v = false := by
      unfold hasF
      cases h1 : (decide (room = 0) && parted r.kind)
      · rw [h1, Bool.false_or, Bool.not_eq_true'] at hno
        rw [hno]; rfl
      · rfl
    rw [e]
    exact rof_no d n r hr room hroom v hno h
theorem rof_all {d : List Dsc} (hBD : ∀ r, r ∈ d → BD (2 ^ 30) r) (htab : tabT d = true) : ∀ (room : Nat), room ≤ 40 → ∀ (t : Int) (v : Val), inT d t → mxV v ≤ 2 ^ 48 → ∀ h, EvR E0 37 [dscl d, i64 t, valv v, i64 room] h (boolv (hasV d room t v))
  | 0, _, t, v, ht, hv, h => by
    have := rof_row hBD htab (rowAt_get ht) 0 (by omega) v hv (fun _ _ => true) (fun k hk => by omega) h
    rw [inT_nat ht] at this
    exact this
  | k + 1, hk, t, v, ht, hv, h => by
    have := rof_row hBD htab (rowAt_get ht) (k + 1) hk v hv (hasV d k) (fun k' hk' t' ht' x hx h => by
      obtain rfl : k = k' := by omega
      exact rof_all hBD htab k (by omega) t' x ht' (by have := hasV_mem hx; omega) h) h
    rw [inT_nat ht] at this
    exact this
end Go.Abs.Fr
