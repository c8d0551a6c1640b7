/- The document's tables: rows. -/
import Derived.Test.YtloimemacnjpgaaGreatS15Pf1
set_option linter.all false
namespace Go.Abs.Fr
open Go Go.Abs Go.Proofs
set_option linter.unusedSimpArgs false
set_option maxRecDepth 100000

def ac69w5 : ACode := (.seq (.region [oq 180 (qf 1 3), oq 181 (ql 180), oq 182 (qm 181), og 183 (qf 7 3) 182 false, og 184 (ql 183) 182 false, og 185 (qn 184) 182 false, og 186 (qm 8) 182 false, og 187 (qn 186) 182 false, og 188 (.bin .add (tq 185) (tq 187)) 182 false, og 189 (.bin .eql (tq 188) (ci 0)) 182 false, oq 190 (.pick (tq 182) (cb true) (tq 189)), oq 4 (qm 190)]) .ret)
def ac69w4 : ACode := (.seq (.seq (.region [oq 158 (qm 5), oq 159 (.bin .eql (tq 158) (ci 9)), oq 160 (qm 159), og 161 (qf 11 3) 160 true, og 162 (ql 161) 160 true, og 163 (.bin .lss (tq 162) (ci 0)) 160 true, og 164 (qm 163) 160 true, og 165 (qf 11 3) 164 false, og 166 (ql 165) 164 false, og 167 (qm 0) 164 false, og 168 (.bin .geq (tq 166) (tq 167)) 164 false, og 169 (.pick (tq 164) (cb true) (tq 168)) 160 true, oq 170 (.pick (tq 160) (tq 169) (cb false)), oq 171 (qm 170), og 172 (qm 5) 171 false, og 173 (.bin .neq (tq 172) (ci 9)) 171 false, og 174 (qm 173) 171 false, og 175 (qf 11 3) 174 true, og 176 (ql 175) 174 true, og 177 (.bin .neq (tq 176) (ci 0)) 174 true, og 178 (.pick (tq 174) (tq 177) (cb false)) 171 false, oq 179 (.pick (tq 171) (cb true) (tq 178))]) (.cond (tq 179) (.seq (.region [oq 4 (.move (cb false))]) .ret) .skip)) ac69w5)
def ac69w3 : ACode := (.seq (.seq (.region [oq 133 (qm 5), oq 134 (.bin .eql (tq 133) (ci 10)), oq 135 (qm 134), og 136 (qm 6) 135 true, og 137 (qn 136) 135 true, og 138 (.bin .eql (tq 137) (ci 0)) 135 true, og 139 (qm 138) 135 true, og 140 (qf 10 3) 139 false, og 141 (ql 140) 139 false, og 142 (qm 6) 139 false, og 143 (qn 142) 139 false, og 144 (.call (.func 88) [((tq 141), false), ((tq 143), false)]) 139 false, og 145 (.un .not (tq 144)) 139 false, og 146 (.pick (tq 139) (cb true) (tq 145)) 135 true, oq 147 (.pick (tq 135) (tq 146) (cb false)), oq 148 (qm 147), og 149 (qm 5) 148 false, og 150 (.bin .neq (tq 149) (ci 10)) 148 false, og 151 (qm 150) 148 false, og 152 (qf 10 3) 151 true, og 153 (ql 152) 151 true, og 154 (qn 153) 151 true, og 155 (.bin .gtr (tq 154) (ci 0)) 151 true, og 156 (.pick (tq 151) (tq 155) (cb false)) 148 false, oq 157 (.pick (tq 148) (cb true) (tq 156))]) (.cond (tq 157) (.seq (.region [oq 4 (.move (cb false))]) .ret) .skip)) ac69w4)
def ac69w2 : ACode := (.seq (.seq (.region [oq 100 (qm 5), oq 101 (.bin .eql (tq 100) (ci 3)), oq 102 (qf 6 3), oq 103 (ql 102), oq 104 (qn 103), oq 105 (.bin .gtr (tq 104) (ci 0)), oq 106 (.eqB true (tq 101) (tq 105)), oq 107 (qm 106), og 108 (qm 5) 107 false, og 109 (.bin .neq (tq 108) (ci 3)) 107 false, og 110 (qm 109) 107 false, og 111 (qf 7 3) 110 true, og 112 (ql 111) 110 true, og 113 (qn 112) 110 true, og 114 (.bin .gtr (tq 113) (ci 0)) 110 true, og 115 (.pick (tq 110) (tq 114) (cb false)) 107 false, oq 116 (.pick (tq 107) (cb true) (tq 115)), oq 117 (qm 116), og 118 (qm 5) 117 false, og 119 (.bin .neq (tq 118) (ci 8)) 117 false, og 120 (qm 119) 117 false, og 121 (qm 5) 120 true, og 122 (.bin .neq (tq 121) (ci 10)) 120 true, og 123 (.pick (tq 120) (tq 122) (cb false)) 117 false, og 124 (qm 123) 117 false, og 125 (qm 6) 124 true, og 126 (qn 125) 124 true, og 127 (qm 8) 124 true, og 128 (qn 127) 124 true, og 129 (.bin .add (tq 126) (tq 128)) 124 true, og 130 (.bin .gtr (tq 129) (ci 0)) 124 true, og 131 (.pick (tq 124) (tq 130) (cb false)) 117 false, oq 132 (.pick (tq 117) (cb true) (tq 131))]) (.cond (tq 132) (.seq (.region [oq 4 (.move (cb false))]) .ret) .skip)) ac69w3)
def ac69w1 : ACode := (.seq (.region [oq 51 (qm 0), oq 52 (qf 8 3), oq 53 (ql 52), oq 54 (qm 5), oq 55 (.bin .eql (tq 54) (ci 10)), oq 56 (.call (.func 86) [((tq 51), false), ((tq 53), false), ((tq 55), false)]), oq 50 (qm 56), oq 57 (.extract (tq 50) 0), oq 58 (.extract (tq 50) 1), oq 6 (qm 57), oq 7 (qm 58)]) (.seq (.region [oq 60 (qm 0), oq 61 (qf 9 3), oq 62 (ql 61), oq 63 (qm 5), oq 64 (.bin .eql (tq 63) (ci 10)), oq 65 (.call (.func 86) [((tq 60), false), ((tq 62), false), ((tq 64), false)]), oq 59 (qm 65), oq 66 (.extract (tq 59) 0), oq 67 (.extract (tq 59) 1), oq 8 (qm 66), oq 9 (qm 67)]) (.seq (.seq (.region [oq 68 (qm 7), oq 69 (.un .not (tq 68)), oq 70 (qm 69), og 71 (qm 9) 70 false, og 72 (.un .not (tq 71)) 70 false, oq 73 (.pick (tq 70) (cb true) (tq 72)), oq 74 (qm 73), og 75 (qm 6) 74 false, og 76 (qm 8) 74 false, og 77 (.call (.func 87) [((tq 75), false), ((tq 76), false)]) 74 false, og 78 (.un .not (tq 77)) 74 false, oq 79 (.pick (tq 74) (cb true) (tq 78)), oq 80 (qm 79), og 81 (qf 6 3) 80 false, og 82 (ql 81) 80 false, og 83 (qf 7 3) 80 false, og 84 (ql 83) 80 false, og 85 (.call (.func 87) [((tq 82), false), ((tq 84), false)]) 80 false, og 86 (.un .not (tq 85)) 80 false, oq 87 (.pick (tq 80) (cb true) (tq 86)), oq 88 (qm 87), og 89 (qf 6 3) 88 false, og 90 (ql 89) 88 false, og 91 (qn 90) 88 false, og 92 (.bin .gtr (tq 91) (ci 256)) 88 false, oq 93 (.pick (tq 88) (cb true) (tq 92)), oq 94 (qm 93), og 95 (qf 7 3) 94 false, og 96 (ql 95) 94 false, og 97 (qn 96) 94 false, og 98 (.bin .gtr (tq 97) (ci 256)) 94 false, oq 99 (.pick (tq 94) (cb true) (tq 98))]) (.cond (tq 99) (.seq (.region [oq 4 (.move (cb false))]) .ret) .skip)) ac69w2)))
def ac69 : ACode := (.seq (.region [oq 3 (.box (tq 1)), oq 4 (.move (cb false))]) (.seq (.region [oq 10 (qf 0 3), oq 11 (ql 10), oq 5 (qm 11)]) (.seq (.seq (.region [oq 12 (qm 5), oq 13 (.bin .lss (tq 12) (ci 1)), oq 14 (qm 13), og 15 (qm 5) 14 false, og 16 (.bin .gtr (tq 15) (ci 10)) 14 false, oq 17 (.pick (tq 14) (cb true) (tq 16)), oq 18 (qm 17), og 19 (qs 12 3) 18 false, og 20 (.call (.func 84) [((tq 19), false)]) 18 false, og 21 (.un .not (tq 20)) 18 false, oq 22 (.pick (tq 18) (cb true) (tq 21)), oq 23 (qm 22), og 24 (qf 5 3) 23 false, og 25 (ql 24) 23 false, og 26 (.call (.func 85) [((tq 25), false)]) 23 false, og 27 (.un .not (tq 26)) 23 false, oq 28 (.pick (tq 23) (cb true) (tq 27)), oq 29 (qm 28), og 30 (qm 5) 29 false, og 31 (.bin .neq (tq 30) (ci 7)) 29 false, og 32 (qm 31) 29 false, og 33 (qf 5 3) 32 true, og 34 (ql 33) 32 true, og 35 (.bin .neq (tq 34) (.const (.string (⟨#[]⟩ : ByteArray)))) 32 true, og 36 (.pick (tq 32) (tq 35) (cb false)) 29 false, oq 37 (.pick (tq 29) (cb true) (tq 36)), oq 38 (qm 37), og 39 (qf 1 3) 38 false, og 40 (ql 39) 38 false, og 41 (qm 40) 38 false, og 42 (qm 5) 41 true, og 43 (.bin .eql (tq 42) (ci 1)) 41 true, og 44 (qm 43) 41 true, og 45 (qm 5) 44 false, og 46 (.bin .eql (tq 45) (ci 4)) 44 false, og 47 (.pick (tq 44) (cb true) (tq 46)) 41 true, og 48 (.pick (tq 41) (tq 47) (cb false)) 38 false, oq 49 (.pick (tq 38) (cb true) (tq 48))]) (.cond (tq 49) (.seq (.region [oq 4 (.move (cb false))]) .ret) .skip)) ac69w1)))
theorem c69 : cfn E0.P [] Tryz.f69 = some (ac69, [(.tmp 4)], 191) := by kernel_rfl

def rr5 (r : Dsc) : Bool := r.ext || decide (r.more.length + r.adds.length = 0)
def rr4 (r : Dsc) (n : Nat) : Bool := bif (decide (r.kind = 9) && (decide (r.elem < 0) || decide ((n : Int) ≤ r.elem))) || (!decide (r.kind = 9) && !decide (r.elem = 0)) then false else rr5 r
def rr3 (r : Dsc) (n : Nat) : Bool := bif (decide (r.kind = 10) && (decide (r.parts.length = 0) || !placesT r.order r.parts.length)) || (!decide (r.kind = 10) && decide (0 < r.order.length)) then false else rr4 r n
def rr2 (r : Dsc) (n : Nat) : Bool := bif !decide (decide (r.kind = 3) = decide (0 < r.names.length)) || ((!decide (r.kind = 3) && decide (0 < r.more.length)) || (!decide (r.kind = 8) && (!decide (r.kind = 10) && decide (0 < r.parts.length + r.adds.length)))) then false else rr3 r n
def rr1 (r : Dsc) (n : Nat) : Bool := bif !fieldsT r.parts n (decide (r.kind = 10)) || (!fieldsT r.adds n (decide (r.kind = 10)) || (!onceT (fnames r.parts ++ fnames r.adds) || (!onceT (r.names ++ r.more) || (decide (256 < r.names.length) || decide (256 < r.more.length))))) then false else rr2 r n
def rr0 (r : Dsc) (n : Nat) : Bool := bif decide (r.kind < 1) || (decide (10 < r.kind) || (!letsT r || (!alphaT r.frm || ((!decide (r.kind = 7) && !decide (r.frm = ⟨#[]⟩)) || (r.ext && (decide (r.kind = 1) || decide (r.kind = 4))))))) then false else rr1 r n
def rrQ (h : List AObj) (b : Bool) : AEx → ASt → Prop := fnPost h.length [.tmp 4] fun r h' => r = .ret (boolv b) ∧ h' = h
theorem rrow5 (r : Dsc) (hm : BD (2 ^ 30) r) (n : Nat) (h : List AObj) (hcl : Closed h) (tm : List (Nat × AV)) (k0 : look tm 0 = i64 n) (k3 : look tm 3 = .ref h.length 0) (k5 : look tm 5 = i64 r.kind) (k6 : look tm 6 = strl (fnames r.parts)) (k8 : look tm 8 = strl (fnames r.adds)) (b : Bool) (hb : rr5 r = b) : awp E0 ac69w5 (rrQ h b) ⟨tm, h ++ [AObj.cells [i64 r.kind, boolv r.ext, rgl r.set, i64 r.lo, i64 r.hi, str r.frm, strl r.names, strl r.more, fldl r.parts, fldl r.adds, intl r.order, i64 r.elem]]⟩ := by
  subst hb
  have hla : (fnames r.adds).length = r.adds.length := by simp
  have wm : IntKind.i64.wrap ((r.more.length : Int) + (r.adds.length : Int)) = ((r.more.length + r.adds.length : Nat) : Int) := by have := hm.2.2.2.1; have := hm.2.2.2.2.2.1; rw [wrap_i64] <;> omega
  have dm : decide (((r.more.length + r.adds.length : Nat) : Int) = 0) = decide (r.more.length + r.adds.length = 0) := by rw [decide_eq_decide]; omega
  simp only [ac69w5, rrQ, k0, k3, k5, k6, k8, hla, wm, dm, awH, ↓awD, awP, Nat.reduceLeDiff, Nat.reduceEqDiff, Nat.reduceAdd, Int.reduceLT, Int.reduceLE, Int.reduceEq]
  repeat' (refine BrF.mk (fun hb => ?_) (fun hb => ?_) <;> (try rw [hb]) <;> simp only [k3, k8, hla, wm, dm, aw21, awH, ↓awD, awP, Nat.reduceLeDiff, Nat.reduceEqDiff, Nat.reduceAdd, Int.reduceLT, Int.reduceLE, Int.reduceEq])
  all_goals (refine Fin.end hcl rfl (by first | rfl | exact (List.append_nil _).symm | (simp only [List.append_assoc]; rfl)) ⟨?_, rfl⟩; simp only [rr5, *, cond_true, cond_false, Bool.not_true, Bool.not_false, Bool.true_and, Bool.false_and, Bool.and_true, Bool.and_false, Bool.true_or, Bool.false_or, Bool.or_true, Bool.or_false, Bool.not_not])
theorem rrow4 (r : Dsc) (hm : BD (2 ^ 30) r) (n : Nat) (h : List AObj) (hcl : Closed h) (tm : List (Nat × AV)) (k0 : look tm 0 = i64 n) (k3 : look tm 3 = .ref h.length 0) (k5 : look tm 5 = i64 r.kind) (k6 : look tm 6 = strl (fnames r.parts)) (k8 : look tm 8 = strl (fnames r.adds)) (b : Bool) (hb : rr4 r n = b) : awp E0 ac69w4 (rrQ h b) ⟨tm, h ++ [AObj.cells [i64 r.kind, boolv r.ext, rgl r.set, i64 r.lo, i64 r.hi, str r.frm, strl r.names, strl r.more, fldl r.parts, fldl r.adds, intl r.order, i64 r.elem]]⟩ := by
  subst hb
  have nx := rrow5 r hm n h hcl
  clear hm
  simp only [ac69w4, rrQ, k0, k3, k5, awH, ↓awD, awP, Nat.reduceLeDiff, Nat.reduceEqDiff, Nat.reduceAdd, Int.reduceLT, Int.reduceLE, Int.reduceEq]
  simp only [rrQ] at nx
  repeat' (refine BrF.mk (fun hb => ?_) (fun hb => ?_) <;> (try rw [hb]) <;> simp only [k0, k3, k5, aw21, awH, ↓awD, awP, Nat.reduceLeDiff, Nat.reduceEqDiff, Nat.reduceAdd, Int.reduceLT, Int.reduceLE, Int.reduceEq])
  all_goals (first | (refine Fin.end hcl rfl (by first | rfl | exact (List.append_nil _).symm | (simp only [List.append_assoc]; rfl)) ⟨?_, rfl⟩; simp only [rr4, *, cond_true, cond_false, Bool.not_true, Bool.not_false, Bool.true_and, Bool.false_and, Bool.and_true, Bool.and_false, Bool.true_or, Bool.false_or, Bool.or_true, Bool.or_false, Bool.not_not]; done) | (exfalso; simp_all; done) | exact nx _ (by simp [look, *]) (by simp [look, *]) (by simp [look, *]) (by simp [look, *]) (by simp [look, *]) _ (by simp only [rr4, *, cond_true, cond_false, Bool.not_true, Bool.not_false, Bool.true_and, Bool.false_and, Bool.and_true, Bool.and_false, Bool.true_or, Bool.false_or, Bool.or_true, Bool.or_false, Bool.not_not]))
theorem rrow3 (r : Dsc) (hm : BD (2 ^ 30) r) (n : Nat) (h : List AObj) (hcl : Closed h) (tm : List (Nat × AV)) (k0 : look tm 0 = i64 n) (k3 : look tm 3 = .ref h.length 0) (k5 : look tm 5 = i64 r.kind) (k6 : look tm 6 = strl (fnames r.parts)) (k8 : look tm 8 = strl (fnames r.adds)) (b : Bool) (hb : rr3 r n = b) : awp E0 ac69w3 (rrQ h b) ⟨tm, h ++ [AObj.cells [i64 r.kind, boolv r.ext, rgl r.set, i64 r.lo, i64 r.hi, str r.frm, strl r.names, strl r.more, fldl r.parts, fldl r.adds, intl r.order, i64 r.elem]]⟩ := by
  subst hb
  have nx := rrow4 r hm n h hcl
  have hlp : (fnames r.parts).length = r.parts.length := by simp
  have hor := fun h => rorder_ev r.order r.parts.length (by have := hm.2.2.2.2.2.2.1; omega) (by have := hm.2.2.2.2.1; omega) h
  have dp : decide ((r.parts.length : Int) = 0) = decide (r.parts.length = 0) := by rw [decide_eq_decide]; omega
  have do0 : decide ((0 : Int) < (r.order.length : Int)) = decide (0 < r.order.length) := by rw [decide_eq_decide]; omega
  clear hm
  simp only [ac69w3, rrQ, k0, k3, k5, k6, hlp, dp, do0, awH, ↓awD, awP, Nat.reduceLeDiff, Nat.reduceEqDiff, Nat.reduceAdd, Int.reduceLT, Int.reduceLE, Int.reduceEq]
  simp only [rrQ] at nx
  repeat' (first | ((first | refine EvF.ret (hor _) ?_ | refine EvRF.ret (hor _) ?_); simp only [k0, k3, k5, k6, hlp, dp, do0, aw21, awH, ↓awD, awP, Nat.reduceLeDiff, Nat.reduceEqDiff, Nat.reduceAdd, Int.reduceLT, Int.reduceLE, Int.reduceEq]) | (refine BrF.mk (fun hb => ?_) (fun hb => ?_) <;> (try rw [hb]) <;> simp only [k0, k3, k5, k6, hlp, dp, do0, aw21, awH, ↓awD, awP, Nat.reduceLeDiff, Nat.reduceEqDiff, Nat.reduceAdd, Int.reduceLT, Int.reduceLE, Int.reduceEq]))
  all_goals clear hor dp do0 hlp
  all_goals (first | (refine Fin.end hcl rfl (by first | rfl | exact (List.append_nil _).symm | (simp only [List.append_assoc]; rfl)) ⟨?_, rfl⟩; simp only [rr3, *, cond_true, cond_false, Bool.not_true, Bool.not_false, Bool.true_and, Bool.false_and, Bool.and_true, Bool.and_false, Bool.true_or, Bool.false_or, Bool.or_true, Bool.or_false, Bool.not_not]; done) | (exfalso; simp_all; done) | exact nx _ (by simp [look, *]) (by simp [look, *]) (by simp [look, *]) (by simp [look, *]) (by simp [look, *]) _ (by simp only [rr3, *, cond_true, cond_false, Bool.not_true, Bool.not_false, Bool.true_and, Bool.false_and, Bool.and_true, Bool.and_false, Bool.true_or, Bool.false_or, Bool.or_true, Bool.or_false, Bool.not_not]))
theorem rrow2 (r : Dsc) (hm : BD (2 ^ 30) r) (n : Nat) (h : List AObj) (hcl : Closed h) (tm : List (Nat × AV)) (k0 : look tm 0 = i64 n) (k3 : look tm 3 = .ref h.length 0) (k5 : look tm 5 = i64 r.kind) (k6 : look tm 6 = strl (fnames r.parts)) (k8 : look tm 8 = strl (fnames r.adds)) (b : Bool) (hb : rr2 r n = b) : awp E0 ac69w2 (rrQ h b) ⟨tm, h ++ [AObj.cells [i64 r.kind, boolv r.ext, rgl r.set, i64 r.lo, i64 r.hi, str r.frm, strl r.names, strl r.more, fldl r.parts, fldl r.adds, intl r.order, i64 r.elem]]⟩ := by
  subst hb
  have nx := rrow3 r hm n h hcl
  have hlp : (fnames r.parts).length = r.parts.length := by simp
  have hla : (fnames r.adds).length = r.adds.length := by simp
  have l1 := hm.2.2.2.2.1
  have l2 := hm.2.2.2.2.2.1
  have wp : IntKind.i64.wrap ((r.parts.length : Int) + (r.adds.length : Int)) = ((r.parts.length + r.adds.length : Nat) : Int) := by rw [wrap_i64] <;> omega
  have dq : decide ((0 : Int) < ((r.parts.length + r.adds.length : Nat) : Int)) = decide (0 < r.parts.length + r.adds.length) := by rw [decide_eq_decide]; omega
  have dn : decide ((0 : Int) < (r.names.length : Int)) = decide (0 < r.names.length) := by rw [decide_eq_decide]; omega
  have dm : decide ((0 : Int) < (r.more.length : Int)) = decide (0 < r.more.length) := by rw [decide_eq_decide]; omega
  clear hm l1 l2
  simp only [rrQ] at nx
  cases e3 : decide (r.kind = 3) <;> cases en : decide (0 < r.names.length) <;> simp only [ac69w2, rrQ, k0, k3, k5, k6, k8, hlp, hla, wp, dq, dn, dm, e3, en, awH, ↓awD, awP, Nat.reduceLeDiff, Nat.reduceEqDiff, Nat.reduceAdd, Int.reduceLT, Int.reduceLE, Int.reduceEq]
  all_goals (repeat' (refine BrF.mk (fun hb => ?_) (fun hb => ?_) <;> (try rw [hb]) <;> simp only [k0, k3, k5, k6, k8, hlp, hla, wp, dq, dn, dm, e3, en, aw21, awH, ↓awD, awP, Nat.reduceLeDiff, Nat.reduceEqDiff, Nat.reduceAdd, Int.reduceLT, Int.reduceLE, Int.reduceEq]))
  all_goals clear wp dq dn dm hlp hla
  all_goals (first | (refine Fin.end hcl rfl (by first | rfl | exact (List.append_nil _).symm | (simp only [List.append_assoc]; rfl)) ⟨?_, rfl⟩; simp [rr2, *]; done) | (exfalso; simp_all; done) | exact nx _ (by simp [look, *]) (by simp [look, *]) (by simp [look, *]) (by simp [look, *]) (by simp [look, *]) _ (by simp [rr2, *]))
theorem rrow1 (r : Dsc) (hm : BD (2 ^ 30) r) (n : Nat) (h : List AObj) (hcl : Closed h) (tm : List (Nat × AV)) (k0 : look tm 0 = i64 n) (k3 : look tm 3 = .ref h.length 0) (k5 : look tm 5 = i64 r.kind) (b : Bool) (hb : rr1 r n = b) : awp E0 ac69w1 (rrQ h b) ⟨tm, h ++ [AObj.cells [i64 r.kind, boolv r.ext, rgl r.set, i64 r.lo, i64 r.hi, str r.frm, strl r.names, strl r.more, fldl r.parts, fldl r.adds, intl r.order, i64 r.elem]]⟩ := by
  subst hb
  have nx := rrow2 r hm n h hcl
  have hfp := fun h => rfields2_ev r.parts n (decide (r.kind = 10)) (by have := hm.2.2.2.2.1; omega) h
  have hfa := fun h => rfields2_ev r.adds n (decide (r.kind = 10)) (by have := hm.2.2.2.2.2.1; omega) h
  have ha1 := fun h => rapart_ev (fnames r.parts) (fnames r.adds) (by simp only [List.length_map]; have := hm.2.2.2.2.1; have := hm.2.2.2.2.2.1; omega) h
  have ha2 := fun h => rapart_ev r.names r.more (by have := hm.2.2.1; have := hm.2.2.2.1; omega) h
  have dn : decide ((256 : Int) < (r.names.length : Int)) = decide (256 < r.names.length) := by rw [decide_eq_decide]; omega
  have dm : decide ((256 : Int) < (r.more.length : Int)) = decide (256 < r.more.length) := by rw [decide_eq_decide]; omega
  have fp : ∀ l : List Fld, (!l.any (badF n (decide (r.kind = 10))) && decide (l.length ≤ 256)) = fieldsT l n (decide (r.kind = 10)) := fun l => Bool.and_comm _ _
  have fp2 : ∀ l : List Fld, fieldsT l n (decide (r.kind = 10)) = true → l.any (badF n (decide (r.kind = 10))) = false := fun l h => by simp only [fieldsT, Bool.and_eq_true, Bool.not_eq_true'] at h; exact h.2
  rw [fp] at hfp hfa
  clear hm
  simp only [rrQ] at nx
  cases f1 : fieldsT r.parts n (decide (r.kind = 10))
  · rw [f1] at hfp
    simp only [ac69w1, rrQ, k0, k3, k5, awH, ↓awD, awP, Nat.reduceLeDiff, Nat.reduceEqDiff, Nat.reduceAdd, Int.reduceLT, Int.reduceLE, Int.reduceEq]
    ((first | refine EvF.ret (hfp _) ?_ | refine EvRF.ret (hfp _) ?_); simp only [k0, k3, k5, aw21, awH, ↓awD, awP, Nat.reduceLeDiff, Nat.reduceEqDiff, Nat.reduceAdd, Int.reduceLT, Int.reduceLE, Int.reduceEq])
    ((first | refine EvF.ret (hfa _) ?_ | refine EvRF.ret (hfa _) ?_); simp only [k0, k3, k5, aw21, awH, ↓awD, awP, Nat.reduceLeDiff, Nat.reduceEqDiff, Nat.reduceAdd, Int.reduceLT, Int.reduceLE, Int.reduceEq])
    refine Fin.end hcl rfl (by first | rfl | exact (List.append_nil _).symm | (simp only [List.append_assoc]; rfl)) ⟨?_, rfl⟩
    simp only [rr1, f1, cond_true, cond_false, Bool.not_true, Bool.not_false, Bool.true_and, Bool.false_and, Bool.and_true, Bool.and_false, Bool.true_or, Bool.false_or, Bool.or_true, Bool.or_false, Bool.not_not]
  · cases f2 : fieldsT r.adds n (decide (r.kind = 10))
    · rw [f1] at hfp
      rw [f2] at hfa
      simp only [ac69w1, rrQ, k0, k3, k5, awH, ↓awD, awP, Nat.reduceLeDiff, Nat.reduceEqDiff, Nat.reduceAdd, Int.reduceLT, Int.reduceLE, Int.reduceEq]
      ((first | refine EvF.ret (hfp _) ?_ | refine EvRF.ret (hfp _) ?_); simp only [k0, k3, k5, aw21, awH, ↓awD, awP, Nat.reduceLeDiff, Nat.reduceEqDiff, Nat.reduceAdd, Int.reduceLT, Int.reduceLE, Int.reduceEq])
      ((first | refine EvF.ret (hfa _) ?_ | refine EvRF.ret (hfa _) ?_); simp only [k0, k3, k5, aw21, awH, ↓awD, awP, Nat.reduceLeDiff, Nat.reduceEqDiff, Nat.reduceAdd, Int.reduceLT, Int.reduceLE, Int.reduceEq])
      refine Fin.end hcl rfl (by first | rfl | exact (List.append_nil _).symm | (simp only [List.append_assoc]; rfl)) ⟨?_, rfl⟩
      simp only [rr1, f1, f2, cond_true, cond_false, Bool.not_true, Bool.not_false, Bool.true_and, Bool.false_and, Bool.and_true, Bool.and_false, Bool.true_or, Bool.false_or, Bool.or_true, Bool.or_false, Bool.not_not]
    · rw [f1, fp2 _ f1] at hfp
      rw [f2, fp2 _ f2] at hfa
      simp only [cond_false] at hfp hfa
      simp only [ac69w1, rrQ, k0, k3, k5, awH, ↓awD, awP, Nat.reduceLeDiff, Nat.reduceEqDiff, Nat.reduceAdd, Int.reduceLT, Int.reduceLE, Int.reduceEq]
      ((first | refine EvF.ret (hfp _) ?_ | refine EvRF.ret (hfp _) ?_); simp only [k0, k3, k5, aw21, awH, ↓awD, awP, Nat.reduceLeDiff, Nat.reduceEqDiff, Nat.reduceAdd, Int.reduceLT, Int.reduceLE, Int.reduceEq])
      ((first | refine EvF.ret (hfa _) ?_ | refine EvRF.ret (hfa _) ?_); simp only [k0, k3, k5, aw21, awH, ↓awD, awP, Nat.reduceLeDiff, Nat.reduceEqDiff, Nat.reduceAdd, Int.reduceLT, Int.reduceLE, Int.reduceEq])
      repeat' (first | ((first | refine EvF.ret (ha1 _) ?_ | refine EvRF.ret (ha1 _) ?_); simp only [k0, k3, k5, dn, dm, aw21, awH, ↓awD, awP, Nat.reduceLeDiff, Nat.reduceEqDiff, Nat.reduceAdd, Int.reduceLT, Int.reduceLE, Int.reduceEq]) | ((first | refine EvF.ret (ha2 _) ?_ | refine EvRF.ret (ha2 _) ?_); simp only [k0, k3, k5, dn, dm, aw21, awH, ↓awD, awP, Nat.reduceLeDiff, Nat.reduceEqDiff, Nat.reduceAdd, Int.reduceLT, Int.reduceLE, Int.reduceEq]) | (refine BrF.mk (fun hb => ?_) (fun hb => ?_) <;> (try rw [hb]) <;> simp only [k0, k3, k5, dn, dm, aw21, awH, ↓awD, awP, Nat.reduceLeDiff, Nat.reduceEqDiff, Nat.reduceAdd, Int.reduceLT, Int.reduceLE, Int.reduceEq]))
      all_goals clear hfp hfa ha1 ha2 dn dm fp fp2
      all_goals (first | (refine Fin.end hcl rfl (by first | rfl | exact (List.append_nil _).symm | (simp only [List.append_assoc]; rfl)) ⟨?_, rfl⟩; simp only [rr1, *, cond_true, cond_false, Bool.not_true, Bool.not_false, Bool.true_and, Bool.false_and, Bool.and_true, Bool.and_false, Bool.true_or, Bool.false_or, Bool.or_true, Bool.or_false, Bool.not_not]; done) | (exfalso; simp_all; done) | exact nx _ (by simp [look, *]) (by simp [look, *]) (by simp [look, *]) (by simp [look, *]) (by simp [look, *]) _ (by simp only [rr1, *, cond_true, cond_false, Bool.not_true, Bool.not_false, Bool.true_and, Bool.false_and, Bool.and_true, Bool.and_false, Bool.true_or, Bool.false_or, Bool.or_true, Bool.or_false, Bool.not_not]))
set_option maxHeartbeats 4000000 in
theorem rrow_ev (r : Dsc) (n : Nat) (hm : BD (2 ^ 30) r) (h : List AObj) : EvR E0 69 [i64 n, dscv r] h (boolv (rr0 r n)) := by
  refine ev_of (fn := Tryz.f69) (hs := []) Tryz.func69 c69 (by simp) fun hcl => ?_
  have nx := rrow1 r hm n h hcl
  have hle := fun h => rsized_ev r (by have := hm.1; omega) h
  have hal := fun h => ralpha_ev r.frm (by have := hm.2.1; omega) h
  clear hm
  simp only [rrQ] at nx
  simp only [dscv_eq] at hle
  cases he : r.ext <;> rw [he] at nx hle <;> simp only [ac69, dscv_eq, he, awH, ↓awD, awP, Nat.reduceLeDiff, Nat.reduceEqDiff, Nat.reduceAdd, Int.reduceLT, Int.reduceLE, Int.reduceEq]
  all_goals (repeat' (first | ((first | refine EvF.ret (hle _) ?_ | refine EvRF.ret (hle _) ?_); simp only [aw21, aw21, awH, ↓awD, awP, Nat.reduceLeDiff, Nat.reduceEqDiff, Nat.reduceAdd, Int.reduceLT, Int.reduceLE, Int.reduceEq]) | ((first | refine EvF.ret (hal _) ?_ | refine EvRF.ret (hal _) ?_); simp only [aw21, aw21, awH, ↓awD, awP, Nat.reduceLeDiff, Nat.reduceEqDiff, Nat.reduceAdd, Int.reduceLT, Int.reduceLE, Int.reduceEq]) | (refine BrF.mk (fun hb => ?_) (fun hb => ?_) <;> (try rw [hb]) <;> simp only [aw21, aw21, awH, ↓awD, awP, Nat.reduceLeDiff, Nat.reduceEqDiff, Nat.reduceAdd, Int.reduceLT, Int.reduceLE, Int.reduceEq])))
  all_goals clear hle hal
  all_goals (first | (refine Fin.end hcl rfl (by first | rfl | exact (List.append_nil _).symm | (simp only [List.append_assoc]; rfl)) ⟨?_, rfl⟩; simp only [rr0, *, cond_true, cond_false, Bool.not_true, Bool.not_false, Bool.true_and, Bool.false_and, Bool.and_true, Bool.and_false, Bool.true_or, Bool.false_or, Bool.or_true, Bool.or_false, Bool.not_not]; done) | (exfalso; simp_all; done) | exact nx _ (by simp [look, *]) (by simp [look, *]) (by simp [look, *]) _ (by simp only [rr0, *, cond_true, cond_false, Bool.not_true, Bool.not_false, Bool.true_and, Bool.false_and, Bool.and_true, Bool.and_false, Bool.true_or, Bool.false_or, Bool.or_true, Bool.or_false, Bool.not_not]))

def ac48 : ACode := (.seq (.region [oq 2 (.move (cb false))]) (.seq (.seq (.region [oq 4 (qm 0), oq 5 (qn 4), oq 6 (.bin .eql (tq 5) (ci 0)), oq 7 (qm 6), og 8 (qm 0) 7 false, og 9 (qn 8) 7 false, og 10 (.bin .gtr (tq 9) (ci 4096)) 7 false, oq 11 (.pick (tq 7) (cb true) (tq 10))]) (.cond (tq 11) (.seq (.region [oq 2 (.move (cb false))]) .ret) .skip)) (.seq (.seq (.region [oq 3 (.move (ci 0))]) (.block 0 (.loop (.seq (.seq (.region [oq 12 (qm 3), oq 13 (qm 0), oq 14 (qn 13), oq 15 (.bin .lss (tq 12) (tq 14))]) (.cond (tq 15) .skip (.exit 0))) (.seq (.block 1 (.seq (.region [oq 18 (qm 0), oq 19 (qn 18), oq 20 (qm 0), oq 21 (qm 3), oq 22 (qx 12 20 21), oq 23 (qs 12 22), oq 24 (.call (.func 69) [((tq 19), false), ((tq 23), false)]), oq 25 (.un .not (tq 24))]) (.cond (tq 25) (.seq (.region [oq 2 (.move (cb false))]) .ret) .skip))) (.region [oq 16 (qm 3), oq 17 (.bin .add (tq 16) (ci 1)), oq 3 (qm 17)])))))) (.seq (.region [oq 2 (.move (cb true))]) .ret))))
theorem c48 : cfn E0.P [] Tryz.f48 = some (ac48, [(.tmp 2)], 26) := by kernel_rfl

set_option maxHeartbeats 4000000 in
theorem rr_row (r : Dsc) (n : Nat) : rr0 r n = rowT r n := by
  have hfn : r.fields.map (·.name) = fnames r.parts ++ fnames r.adds := by simp [Dsc.fields]
  have hs0 : decide (r.frm = (⟨#[]⟩ : ByteArray)) = decide (r.frm.size = 0) := by
    rw [decide_eq_decide]
    constructor
    · rintro h; rw [h]; rfl
    · intro h; exact ByteArray.ext (Array.eq_empty_of_size_eq_zero h)
  have a1 : decide (256 < r.names.length) = !decide (r.names.length ≤ 256) := by rw [Bool.eq_iff_iff]; simp
  have a2 : decide (256 < r.more.length) = !decide (r.more.length ≤ 256) := by rw [Bool.eq_iff_iff]; simp
  have a3 : decide (r.more.length = 0) = !decide (0 < r.more.length) := by rw [Bool.eq_iff_iff]; simp [Nat.pos_iff_ne_zero]
  have a4 : decide (r.more.length + r.adds.length = 0) = !decide (0 < r.more.length + r.adds.length) := by rw [Bool.eq_iff_iff, Bool.not_eq_true', decide_eq_true_eq, decide_eq_false_iff_not]; omega
  have a5 : decide (0 ≤ r.elem) = !decide (r.elem < 0) := by rw [Bool.eq_iff_iff]; simp
  have a6 : decide (r.elem < (n : Int)) = !decide ((n : Int) ≤ r.elem) := by rw [Bool.eq_iff_iff]; simp
  simp only [rr0, rr1, rr2, rr3, rr4, rr5, rowT, rowT1, rowT2, rowT3, rowT4, rowT5, namesT, bifF, hfn, hs0, a1, a2, a3, a4, a5, a6]
  generalize decide (r.frm.size = 0) = b1
  generalize decide (r.names.length ≤ 256) = b2
  generalize decide (r.more.length ≤ 256) = b3
  generalize decide (0 < r.more.length) = b4
  generalize decide (0 < r.more.length + r.adds.length) = b5
  generalize decide (r.elem < 0) = b6
  generalize decide ((n : Int) ≤ r.elem) = b7
  generalize decide (r.elem = 0) = b8
  generalize letsT r = b9
  generalize alphaT r.frm = b10
  generalize onceT (fnames r.parts ++ fnames r.adds) = b11
  generalize onceT (r.names ++ r.more) = b12
  generalize decide (r.kind < 1) = b13
  generalize decide (10 < r.kind) = b14
  generalize decide (r.parts.length = 0) = b15
  generalize decide (0 < r.order.length) = b16
  generalize placesT r.order r.parts.length = b17
  generalize decide (0 < r.parts.length + r.adds.length) = b18
  generalize decide (decide (r.kind = 3) = decide (0 < r.names.length)) = b19
  generalize r.ext = b20
  generalize fieldsT r.parts n (decide (r.kind = 10)) = b21
  generalize fieldsT r.adds n (decide (r.kind = 10)) = b22
  generalize decide (r.kind = 10) = k10
  generalize decide (r.kind = 9) = k9
  generalize decide (r.kind = 8) = k8
  generalize decide (r.kind = 7) = k7
  generalize decide (r.kind = 4) = k4
  generalize decide (r.kind = 3) = k3
  generalize decide (r.kind = 1) = k1
  cases b20 <;> cases k10 <;> cases k9 <;> cases k8 <;> simp only [Bool.not_true, Bool.not_false, Bool.true_and, Bool.false_and, Bool.and_true, Bool.and_false, Bool.true_or, Bool.false_or, Bool.or_true, Bool.or_false, cond_true, cond_false, Bool.not_not, Bool.not_and, Bool.not_or] <;> (cases b9 <;> simp only [Bool.true_and, Bool.false_and, Bool.and_true, Bool.and_false]) <;> (try ac_rfl)

theorem rtab_ev (d : List Dsc) (hd : ∀ r, r ∈ d → BD (2 ^ 30) r) (hl : d.length < 2 ^ 40) (h : List AObj) : EvR E0 48 [dscl d] h (boolv (tabT d)) := by
  refine ev_of (fn := Tryz.f48) (hs := []) Tryz.func48 c48 (by simp) fun hcl => ?_
  have d0 : decide ((d.length : Int) = 0) = !decide (0 < d.length) := by rw [Bool.eq_iff_iff, Bool.not_eq_true', decide_eq_true_eq, decide_eq_false_iff_not]; omega
  have d1 : decide ((4096 : Int) < (d.length : Int)) = !decide (d.length ≤ 4096) := by rw [Bool.eq_iff_iff]; simp; omega
  unfold tabT
  cases c0 : decide (0 < d.length)
  · rw [c0] at d0
    simp only [ac48, d0, awH, ↓awD, awP, Nat.reduceLeDiff, Nat.reduceEqDiff, Nat.reduceAdd, Int.reduceLT, Int.reduceLE, Int.reduceEq]
    exact Fin.end hcl rfl (by first | rfl | exact (List.append_nil _).symm | (simp only [List.append_assoc]; rfl)) ⟨rfl, rfl⟩
  · cases c1 : decide (d.length ≤ 4096)
    · rw [c0] at d0
      rw [c1] at d1
      simp only [ac48, d0, d1, awH, ↓awD, awP, Nat.reduceLeDiff, Nat.reduceEqDiff, Nat.reduceAdd, Int.reduceLT, Int.reduceLE, Int.reduceEq]
      exact Fin.end hcl rfl (by first | rfl | exact (List.append_nil _).symm | (simp only [List.append_assoc]; rfl)) ⟨rfl, rfl⟩
    · rw [c0] at d0
      rw [c1] at d1
      generalize hR : (true && (true && !d.any fun r => !rowT r d.length)) = R
      simp only [ac48, d0, d1, awH, ↓awD, awP, Nat.reduceLeDiff, Nat.reduceEqDiff, Nat.reduceAdd, Int.reduceLT, Int.reduceLE, Int.reduceEq]
      refine LoopF.list d (by omega) (γ := Unit) (fun i _ => ⟨[(0, dscl d), (3, i64 i)], h⟩) (fun i _ => (!(d.drop i).any fun r => !rowT r d.length) = R) () (by simpa using hR) (weak_of rfl (by simp [look])) ?_ ?_
      · rintro i r _ hr hv hi e1 w3
        rw [drop_get hr, List.any_cons] at hv
        have hga := map_get dscv d i r hr
        have hrow := fun h => rrow_ev r d.length (hd r (List.mem_of_getElem? hr)) h
        rw [rr_row] at hrow
        simp only [dscv_eq] at hrow
        simp only [e1, w3, awH, ↓awD, awP, Nat.reduceLeDiff, Nat.reduceEqDiff, Nat.reduceAdd, Int.reduceLT, Int.reduceLE, Int.reduceEq]
        cases hrt : rowT r d.length
        · rw [hrt] at hrow hv
          simp only [Bool.not_false, Bool.true_or, Bool.not_true] at hv
          subst hv
          repeat' (first | ((try refine Need.mk (by first | (first | omega | (simp only [awO] at *; omega) | (simp; omega)) | (constructor <;> (first | omega | (simp only [awO] at *; omega) | (simp; omega)))) ?_); refine Elem.recs hga (by first | (rw [dscv_eq]; exact ⟨rfl, rfl⟩) | exact ⟨rfl, rfl⟩) ?_; simp only [dscv_eq, w3, aw21, awH, ↓awD, awP, Nat.reduceLeDiff, Nat.reduceEqDiff, Nat.reduceAdd, Int.reduceLT, Int.reduceLE, Int.reduceEq]) | ((first | refine EvF.ret (hrow _) ?_ | refine EvRF.ret (hrow _) ?_); simp only [w3, aw21, awH, ↓awD, awP, Nat.reduceLeDiff, Nat.reduceEqDiff, Nat.reduceAdd, Int.reduceLT, Int.reduceLE, Int.reduceEq]))
          exact Fin.end hcl rfl (by first | rfl | exact (List.append_nil _).symm | (simp only [List.append_assoc]; rfl)) ⟨rfl, rfl⟩
        · rw [hrt] at hrow hv
          simp only [Bool.not_true, Bool.false_or] at hv
          repeat' (first | ((try refine Need.mk (by first | (first | omega | (simp only [awO] at *; omega) | (simp; omega)) | (constructor <;> (first | omega | (simp only [awO] at *; omega) | (simp; omega)))) ?_); refine Elem.recs hga (by first | (rw [dscv_eq]; exact ⟨rfl, rfl⟩) | exact ⟨rfl, rfl⟩) ?_; simp only [dscv_eq, w3, aw21, awH, ↓awD, awP, Nat.reduceLeDiff, Nat.reduceEqDiff, Nat.reduceAdd, Int.reduceLT, Int.reduceLE, Int.reduceEq]) | ((first | refine EvF.ret (hrow _) ?_ | refine EvRF.ret (hrow _) ?_); simp only [w3, aw21, awH, ↓awD, awP, Nat.reduceLeDiff, Nat.reduceEqDiff, Nat.reduceAdd, Int.reduceLT, Int.reduceLE, Int.reduceEq]))
          exact ⟨(i + 1, ()), ⟨hi, hv⟩, by simp only; omega, weak_of rfl (by simp [look])⟩
      · rintro _ hv e1
        rw [drop_len, List.any_nil] at hv
        subst hv
        simp only [e1, awH, ↓awD, awP, Nat.reduceLeDiff, Nat.reduceEqDiff, Nat.reduceAdd, Int.reduceLT, Int.reduceLE, Int.reduceEq]
        exact Fin.end hcl rfl (by first | rfl | exact (List.append_nil _).symm | (simp only [List.append_assoc]; rfl)) ⟨rfl, rfl⟩

def ac36 : ACode := (.seq (.region [oq 2 (.box (tq 0)), oq 4 (.move (cb false))]) (.seq (.seq (.region [oq 6 (qf 0 2), oq 7 (ql 6), oq 8 (.call (.func 50) [((tq 7), false)]), oq 9 (.un .not (tq 8))]) (.cond (tq 9) (.seq (.region [oq 4 (.move (cb false))]) .ret) .skip)) (.seq (.seq (.region [oq 10 (qm 1), oq 11 (.bin .eql (tq 10) (ci 0))]) (.cond (tq 11) (.seq (.region [oq 4 (.move (cb true))]) .ret) .skip)) (.seq (.seq (.region [oq 5 (.move (ci 0))]) (.block 0 (.loop (.seq (.seq (.region [oq 12 (qm 5), oq 13 (qf 4 2), oq 14 (ql 13), oq 15 (qn 14), oq 16 (.bin .lss (tq 12) (tq 15))]) (.cond (tq 16) .skip (.exit 0))) (.seq (.block 1 (.seq (.region [oq 19 (qf 4 2), oq 20 (ql 19), oq 21 (qm 5), oq 22 (qx 5 20 21), oq 23 (qs 5 22), oq 24 (qm 1), oq 25 (.bin .sub (tq 24) (ci 1)), oq 26 (.call (.func 36) [((tq 23), false), ((tq 25), false)])]) (.cond (tq 26) (.seq (.region [oq 4 (.move (cb true))]) .ret) .skip))) (.region [oq 17 (qm 5), oq 18 (.bin .add (tq 17) (ci 1)), oq 5 (qm 18)])))))) (.seq (.region [oq 4 (.move (cb false))]) .ret)))))
theorem c36 : cfn E0.P [] Tryz.f36 = some (ac36, [(.tmp 4)], 27) := by kernel_rfl
def ac49 : ACode := (.seq (.region [oq 2 (.move (cb false))]) (.seq (.region [oq 3 (qm 0), oq 4 (.bin .eql (tq 3) (ci 1)), oq 5 (qm 4), og 6 (qm 0) 5 false, og 7 (.bin .eql (tq 6) (ci 2)) 5 false, oq 8 (.pick (tq 5) (cb true) (tq 7)), oq 9 (qm 8), og 10 (qm 0) 9 false, og 11 (.bin .eql (tq 10) (ci 3)) 9 false, oq 12 (.pick (tq 9) (cb true) (tq 11)), oq 13 (qm 12), og 14 (qm 0) 13 false, og 15 (.bin .eql (tq 14) (ci 7)) 13 false, oq 16 (.pick (tq 13) (cb true) (tq 15)), oq 2 (qm 16)]) .ret))
theorem c49 : cfn E0.P [] Tryz.f49 = some (ac49, [(.tmp 2)], 17) := by kernel_rfl
def ac50 : ACode := (.seq (.region [oq 2 (.move (cb false))]) (.seq (.region [oq 3 (qm 0), oq 4 (.bin .eql (tq 3) (ci 8)), oq 5 (qm 4), og 6 (qm 0) 5 false, og 7 (.bin .eql (tq 6) (ci 9)) 5 false, oq 8 (.pick (tq 5) (cb true) (tq 7)), oq 9 (qm 8), og 10 (qm 0) 9 false, og 11 (.bin .eql (tq 10) (ci 10)) 9 false, oq 12 (.pick (tq 9) (cb true) (tq 11)), oq 2 (qm 12)]) .ret))
theorem c50 : cfn E0.P [] Tryz.f50 = some (ac50, [(.tmp 2)], 13) := by kernel_rfl
def ac54 : ACode := (.seq (.region [oq 2 (.box (tq 0)), oq 4 (.move (cb false))]) (.seq (.region [oq 5 (qm 1), oq 6 (.bin .leq (tq 5) (ci 1048576)), oq 7 (qm 6), og 8 (qf 1 2) 7 true, og 9 (ql 8) 7 true, og 10 (qm 9) 7 true, og 11 (qf 2 2) 10 false, og 12 (ql 11) 10 false, og 13 (qm 1) 10 false, og 14 (.call (.func 52) [((tq 12), false), ((tq 13), false)]) 10 false, og 15 (.pick (tq 10) (cb true) (tq 14)) 7 true, oq 16 (.pick (tq 7) (tq 15) (cb false)), oq 4 (qm 16)]) .ret))
theorem c54 : cfn E0.P [] Tryz.f54 = some (ac54, [(.tmp 4)], 17) := by kernel_rfl

theorem rsimple_ev (k : Int) (h : List AObj) : EvR E0 49 [i64 k] h (boolv (simpK k)) := by
  refine ev_of (fn := Tryz.f49) (hs := []) Tryz.func49 c49 (by simp) fun hcl => ?_
  simp only [ac49, awH, ↓awD, awP, Nat.reduceLeDiff, Nat.reduceEqDiff, Nat.reduceAdd, Int.reduceLT, Int.reduceLE, Int.reduceEq]
  repeat' (refine BrF.mk (fun hb => ?_) (fun hb => ?_) <;> (try rw [hb]) <;> simp only [aw21, aw21, awH, ↓awD, awP, Nat.reduceLeDiff, Nat.reduceEqDiff, Nat.reduceAdd, Int.reduceLT, Int.reduceLE, Int.reduceEq])
  all_goals (refine Fin.end hcl rfl (by first | rfl | exact (List.append_nil _).symm | (simp only [List.append_assoc]; rfl)) ⟨?_, rfl⟩; simp only [simpK, *, Bool.true_or, Bool.false_or, Bool.or_true, Bool.or_false])
theorem rparted_ev (k : Int) (h : List AObj) : EvR E0 50 [i64 k] h (boolv (parted k)) := by
  refine ev_of (fn := Tryz.f50) (hs := []) Tryz.func50 c50 (by simp) fun hcl => ?_
  simp only [ac50, awH, ↓awD, awP, Nat.reduceLeDiff, Nat.reduceEqDiff, Nat.reduceAdd, Int.reduceLT, Int.reduceLE, Int.reduceEq]
  repeat' (refine BrF.mk (fun hb => ?_) (fun hb => ?_) <;> (try rw [hb]) <;> simp only [aw21, aw21, awH, ↓awD, awP, Nat.reduceLeDiff, Nat.reduceEqDiff, Nat.reduceAdd, Int.reduceLT, Int.reduceLE, Int.reduceEq])
  all_goals (refine Fin.end hcl rfl (by first | rfl | exact (List.append_nil _).symm | (simp only [List.append_assoc]; rfl)) ⟨?_, rfl⟩; simp only [parted, *, Bool.true_or, Bool.false_or, Bool.or_true, Bool.or_false])
theorem rdeep_ev : ∀ (n : Nat), n ≤ 40 → ∀ (v : Val), mxV v ≤ 2 ^ 48 → ∀ h, EvR E0 36 [valv v, i64 n] h (boolv (deepV n v))
  | 0, _, v, hv, h => by
    refine ev_of (fn := Tryz.f36) (hs := []) Tryz.func36 c36 (by simp) fun hcl => ?_
    have hp := fun h => rparted_ev v.kind h
    simp only [deepV]
    generalize parted v.kind = p at *
    simp only [ac36, valv_eq, awH, ↓awD, awP, Nat.reduceLeDiff, Nat.reduceEqDiff, Nat.reduceAdd, Int.reduceLT, Int.reduceLE, Int.reduceEq]
    ((first | refine EvF.ret (hp _) ?_ | refine EvRF.ret (hp _) ?_); simp only [aw21, aw21, awH, ↓awD, awP, Nat.reduceLeDiff, Nat.reduceEqDiff, Nat.reduceAdd, Int.reduceLT, Int.reduceLE, Int.reduceEq])
    (refine BrF.mk (fun hb => ?_) (fun hb => ?_) <;> (try rw [hb]) <;> simp only [aw21, aw21, awH, ↓awD, awP, Nat.reduceLeDiff, Nat.reduceEqDiff, Nat.reduceAdd, Int.reduceLT, Int.reduceLE, Int.reduceEq])
    all_goals exact Fin.end hcl rfl (by first | rfl | exact (List.append_nil _).symm | (simp only [List.append_assoc]; rfl)) ⟨rfl, rfl⟩
  | n + 1, hn, v, hv, h => by
    have hp := fun h => rparted_ev v.kind h
    simp only [deepV]
    cases hpk : parted v.kind
    · rw [hpk] at hp
      refine ev_of (fn := Tryz.f36) (hs := []) Tryz.func36 c36 (by simp) fun hcl => ?_
      simp only [ac36, valv_eq, awH, ↓awD, awP, Nat.reduceLeDiff, Nat.reduceEqDiff, Nat.reduceAdd, Int.reduceLT, Int.reduceLE, Int.reduceEq]
      ((first | refine EvF.ret (hp _) ?_ | refine EvRF.ret (hp _) ?_); simp only [aw21, aw21, awH, ↓awD, awP, Nat.reduceLeDiff, Nat.reduceEqDiff, Nat.reduceAdd, Int.reduceLT, Int.reduceLE, Int.reduceEq])
      exact Fin.end hcl rfl (by first | rfl | exact (List.append_nil _).symm | (simp only [List.append_assoc]; rfl)) ⟨rfl, rfl⟩
    · rw [hpk] at hp
      have hln : v.l.length < 2 ^ 60 := by have := mxVs_len v.l; have := mxV_le v; omega
      have dn : decide (((n + 1 : Nat) : Int) = 0) = false := by rw [decide_eq_false_iff_not]; omega
      have wn : IntKind.i64.wrap (((n + 1 : Nat) : Int) - 1) = (n : Int) := by rw [wrap_i64] <;> omega
      refine ev_of (fn := Tryz.f36) (hs := []) Tryz.func36 c36 (by simp) fun hcl => ?_
      generalize hR : (true && v.l.any (deepV n)) = R
      simp only [ac36, valv_eq, awH, ↓awD, awP, Nat.reduceLeDiff, Nat.reduceEqDiff, Nat.reduceAdd, Int.reduceLT, Int.reduceLE, Int.reduceEq]
      ((first | refine EvF.ret (hp _) ?_ | refine EvRF.ret (hp _) ?_); simp only [dn, aw21, awH, ↓awD, awP, Nat.reduceLeDiff, Nat.reduceEqDiff, Nat.reduceAdd, Int.reduceLT, Int.reduceLE, Int.reduceEq])
      have g0 : (h ++ [AObj.cells [i64 v.kind, i64 v.n, str v.s, strl v.names, vall v.l]])[h.length]? = some (AObj.cells [i64 v.kind, i64 v.n, str v.s, strl v.names, vall v.l]) := by simp
      generalize hO : h ++ [AObj.cells [i64 v.kind, i64 v.n, str v.s, strl v.names, vall v.l]] = H at *
      refine LoopF.list v.l hln (γ := Unit) (fun i _ => ⟨[(1, i64 (n + 1 : Nat)), (2, .ref h.length 0), (5, i64 i)], H⟩) (fun i _ => (v.l.drop i).any (deepV n) = R) () (by simpa using hR) (weak_of rfl (by simp [look])) ?_ ?_
      · rintro i x _ hx hv2 hi e1 w3
        rw [drop_get hx, List.any_cons] at hv2
        have hgx := map_get valv v.l i x hx
        have hdx := fun h => rdeep_ev n (by omega) x (by have := mxVs_mem (List.mem_of_getElem? hx); have := mxV_le v; omega) h
        simp only [valv_eq] at hdx
        simp only [e1, g0, w3, awH, ↓awD, awP, Nat.reduceLeDiff, Nat.reduceEqDiff, Nat.reduceAdd, Int.reduceLT, Int.reduceLE, Int.reduceEq]
        cases hd : deepV n x
        · rw [hd] at hdx hv2
          rw [Bool.false_or] at hv2
          repeat' (first | ((try refine Need.mk (by first | (first | omega | (simp only [awO] at *; omega) | (simp; omega)) | (constructor <;> (first | omega | (simp only [awO] at *; omega) | (simp; omega)))) ?_); refine Elem.recs hgx (by first | (rw [valv_eq]; exact ⟨rfl, rfl⟩) | exact ⟨rfl, rfl⟩) ?_; simp only [valv_eq, w3, wn, g0, aw21, awH, ↓awD, awP, Nat.reduceLeDiff, Nat.reduceEqDiff, Nat.reduceAdd, Int.reduceLT, Int.reduceLE, Int.reduceEq]) | ((first | refine EvF.ret (hdx _) ?_ | refine EvRF.ret (hdx _) ?_); simp only [w3, aw21, awH, ↓awD, awP, Nat.reduceLeDiff, Nat.reduceEqDiff, Nat.reduceAdd, Int.reduceLT, Int.reduceLE, Int.reduceEq]))
          exact ⟨(i + 1, ()), ⟨hi, hv2⟩, by simp only; omega, weak_of rfl (by simp [look])⟩
        · rw [hd] at hdx hv2
          rw [Bool.true_or] at hv2
          subst hv2
          repeat' (first | ((try refine Need.mk (by first | (first | omega | (simp only [awO] at *; omega) | (simp; omega)) | (constructor <;> (first | omega | (simp only [awO] at *; omega) | (simp; omega)))) ?_); refine Elem.recs hgx (by first | (rw [valv_eq]; exact ⟨rfl, rfl⟩) | exact ⟨rfl, rfl⟩) ?_; simp only [valv_eq, w3, wn, g0, aw21, awH, ↓awD, awP, Nat.reduceLeDiff, Nat.reduceEqDiff, Nat.reduceAdd, Int.reduceLT, Int.reduceLE, Int.reduceEq]) | ((first | refine EvF.ret (hdx _) ?_ | refine EvRF.ret (hdx _) ?_); simp only [w3, aw21, awH, ↓awD, awP, Nat.reduceLeDiff, Nat.reduceEqDiff, Nat.reduceAdd, Int.reduceLT, Int.reduceLE, Int.reduceEq]))
          rw [← hO]
          exact Fin.end hcl rfl (by first | rfl | exact (List.append_nil _).symm | (simp only [List.append_assoc]; rfl)) ⟨rfl, rfl⟩
      · rintro _ hv2 e1
        rw [drop_len, List.any_nil] at hv2
        subst hv2
        simp only [e1, g0, awH, ↓awD, awP, Nat.reduceLeDiff, Nat.reduceEqDiff, Nat.reduceAdd, Int.reduceLT, Int.reduceLE, Int.reduceEq]
        rw [← hO]
        exact Fin.end hcl rfl (by first | rfl | exact (List.append_nil _).symm | (simp only [List.append_assoc]; rfl)) ⟨rfl, rfl⟩
theorem rsize_ev (r : Dsc) (n : Nat) (hr : r.set.length < 2 ^ 60) (h : List AObj) : EvR E0 54 [dscv r, i64 n] h (boolv (sizedOk r n)) := by
  refine ev_of (fn := Tryz.f54) (hs := []) Tryz.func54 c54 (by simp) fun hcl => ?_
  have hc := fun h => rhas_ev r.set n hr h
  have d0 : decide ((n : Int) ≤ 1048576) = decide (n ≤ 1048576) := by rw [decide_eq_decide]; omega
  unfold sizedOk
  simp only [ac54, dscv_eq, d0, awH, ↓awD, awP, Nat.reduceLeDiff, Nat.reduceEqDiff, Nat.reduceAdd, Int.reduceLT, Int.reduceLE, Int.reduceEq]
  repeat' (first | ((first | refine EvF.ret (hc _) ?_ | refine EvRF.ret (hc _) ?_); simp only [d0, aw21, awH, ↓awD, awP, Nat.reduceLeDiff, Nat.reduceEqDiff, Nat.reduceAdd, Int.reduceLT, Int.reduceLE, Int.reduceEq]) | (refine BrF.mk (fun hb => ?_) (fun hb => ?_) <;> (try rw [hb]) <;> simp only [d0, aw21, awH, ↓awD, awP, Nat.reduceLeDiff, Nat.reduceEqDiff, Nat.reduceAdd, Int.reduceLT, Int.reduceLE, Int.reduceEq]))
  all_goals (refine Fin.end hcl rfl (by first | rfl | exact (List.append_nil _).symm | (simp only [List.append_assoc]; rfl)) ⟨?_, rfl⟩; simp only [*, Bool.true_or, Bool.false_or, Bool.or_true, Bool.or_false, Bool.true_and, Bool.false_and, Bool.and_true, Bool.and_false])

def ac13 : ACode := (.seq (.region [oq 2 (.box (tq 0)), oq 3 (.box (tq 1)), oq 4 (.move (cb false))]) (.seq (.region [oq 5 (qs 5 2), oq 6 (qs 5 3), oq 7 (.call (.func 22) [((tq 5), false), ((tq 6), false)]), oq 4 (qm 7)]) .ret))
theorem c13 : cfn E0.P [] Tryz.f13 = some (ac13, [(.tmp 4)], 8) := by kernel_rfl
def ac22 : ACode := (.seq (.region [oq 2 (.box (tq 0)), oq 3 (.box (tq 1)), oq 4 (.move (cb false))]) (.seq (.seq (.region [oq 6 (qf 0 2), oq 7 (ql 6), oq 8 (qf 0 3), oq 9 (ql 8), oq 10 (.bin .neq (tq 7) (tq 9)), oq 11 (qm 10), og 12 (qf 1 2) 11 false, og 13 (ql 12) 11 false, og 14 (qf 1 3) 11 false, og 15 (ql 14) 11 false, og 16 (.bin .neq (tq 13) (tq 15)) 11 false, oq 17 (.pick (tq 11) (cb true) (tq 16)), oq 18 (qm 17), og 19 (qf 2 2) 18 false, og 20 (ql 19) 18 false, og 21 (qf 2 3) 18 false, og 22 (ql 21) 18 false, og 23 (.bin .neq (tq 20) (tq 22)) 18 false, oq 24 (.pick (tq 18) (cb true) (tq 23)), oq 25 (qm 24), og 26 (qf 3 2) 25 false, og 27 (ql 26) 25 false, og 28 (qf 3 3) 25 false, og 29 (ql 28) 25 false, og 30 (.call (.func 39) [((tq 27), false), ((tq 29), false)]) 25 false, og 31 (.un .not (tq 30)) 25 false, oq 32 (.pick (tq 25) (cb true) (tq 31)), oq 33 (qm 32), og 34 (qf 4 2) 33 false, og 35 (ql 34) 33 false, og 36 (qn 35) 33 false, og 37 (qf 4 3) 33 false, og 38 (ql 37) 33 false, og 39 (qn 38) 33 false, og 40 (.bin .neq (tq 36) (tq 39)) 33 false, oq 41 (.pick (tq 33) (cb true) (tq 40))]) (.cond (tq 41) (.seq (.region [oq 4 (.move (cb false))]) .ret) .skip)) (.seq (.seq (.region [oq 5 (.move (ci 0))]) (.block 0 (.loop (.seq (.seq (.region [oq 42 (qm 5), oq 43 (qf 4 2), oq 44 (ql 43), oq 45 (qn 44), oq 46 (.bin .lss (tq 42) (tq 45))]) (.cond (tq 46) .skip (.exit 0))) (.seq (.block 1 (.seq (.draw [oq 49 (qf 4 2), oq 50 (ql 49), oq 51 (qm 5), oq 52 (qx 5 50 51), oq 53 (qs 5 52), oq 54 (qf 4 3), oq 55 (ql 54), oq 56 (qm 5), oq 57 (qx 5 55 56), oq 58 (qs 5 57), oq 59 (.call (.func 22) [((tq 53), false), ((tq 58), false)]), oq 60 (.un .not (tq 59))]) (.cond (tq 60) (.seq (.region [oq 4 (.move (cb false))]) .ret) .skip))) (.region [oq 47 (qm 5), oq 48 (.bin .add (tq 47) (ci 1)), oq 5 (qm 48)])))))) (.seq (.region [oq 4 (.move (cb true))]) .ret))))
theorem c22 : cfn E0.P [] Tryz.f22 = some (ac22, [(.tmp 4)], 61) := by kernel_rfl
def ac38 : ACode := (.seq (.region [oq 4 (.move (ci 0))]) (.seq (.seq (.region [oq 5 (.move (ci 0))]) (.block 0 (.loop (.seq (.seq (.region [oq 6 (qm 5), oq 7 (qm 0), oq 8 (qn 7), oq 9 (.bin .lss (tq 6) (tq 8))]) (.cond (tq 9) .skip (.exit 0))) (.seq (.block 1 (.seq (.region [oq 12 (qm 0), oq 13 (qm 5), oq 14 (qx 1 12 13), oq 15 (ql 14), oq 16 (qm 1), oq 17 (.bin .eql (tq 15) (tq 16))]) (.cond (tq 17) (.seq (.region [oq 18 (qm 5), oq 4 (qm 18)]) .ret) .skip))) (.region [oq 10 (qm 5), oq 11 (.bin .add (tq 10) (ci 1)), oq 5 (qm 11)])))))) (.seq (.region [oq 4 (.move (.const (.int .i64 (-1))))]) .ret)))
theorem c38 : cfn E0.P [] Tryz.f38 = some (ac38, [(.tmp 4)], 19) := by kernel_rfl
def ac39 : ACode := (.seq (.region [oq 4 (.move (cb false))]) (.seq (.seq (.region [oq 6 (qm 0), oq 7 (qn 6), oq 8 (qm 1), oq 9 (qn 8), oq 10 (.bin .neq (tq 7) (tq 9))]) (.cond (tq 10) (.seq (.region [oq 4 (.move (cb false))]) .ret) .skip)) (.seq (.seq (.region [oq 5 (.move (ci 0))]) (.block 0 (.loop (.seq (.seq (.region [oq 11 (qm 5), oq 12 (qm 0), oq 13 (qn 12), oq 14 (.bin .lss (tq 11) (tq 13))]) (.cond (tq 14) .skip (.exit 0))) (.seq (.block 1 (.seq (.draw [oq 17 (qm 0), oq 18 (qm 5), oq 19 (qx 1 17 18), oq 20 (ql 19), oq 21 (qm 1), oq 22 (qm 5), oq 23 (qx 1 21 22), oq 24 (ql 23), oq 25 (.bin .neq (tq 20) (tq 24))]) (.cond (tq 25) (.seq (.region [oq 4 (.move (cb false))]) .ret) .skip))) (.region [oq 15 (qm 5), oq 16 (.bin .add (tq 15) (ci 1)), oq 5 (qm 16)])))))) (.seq (.region [oq 4 (.move (cb true))]) .ret))))
theorem c39 : cfn E0.P [] Tryz.f39 = some (ac39, [(.tmp 4)], 26) := by kernel_rfl
def ac53 : ACode := (.seq (.region [oq 4 (.move (cb false))]) (.seq (.seq (.region [oq 5 (.move (ci 0))]) (.block 0 (.loop (.seq (.seq (.region [oq 8 (qm 5), oq 9 (qm 0), oq 10 (.len true (tq 9)), oq 11 (.bin .lss (tq 8) (tq 10))]) (.cond (tq 11) .skip (.exit 0))) (.seq (.block 1 (.seq (.region [oq 14 (qm 1), oq 15 (.bin .eql (tq 14) (.const (.string (⟨#[]⟩ : ByteArray)))), oq 16 (qm 15), og 17 (qm 0) 16 true, og 18 (qm 5) 16 true, og 19 (.indexS (tq 17) (tq 18)) 16 true, og 20 (.bin .lss (tq 19) (.const (.int .u8 128))) 16 true, oq 21 (.pick (tq 16) (tq 20) (cb false)), oq 6 (qm 21)]) (.seq (.seq (.region [oq 7 (.move (ci 0))]) (.block 2 (.loop (.seq (.seq (.region [oq 22 (qm 7), oq 23 (qm 1), oq 24 (.len true (tq 23)), oq 25 (.bin .lss (tq 22) (tq 24))]) (.cond (tq 25) .skip (.exit 2))) (.seq (.block 3 (.draw [oq 28 (qm 6), oq 29 (qm 28), og 30 (qm 1) 29 false, og 31 (qm 7) 29 false, og 32 (.indexS (tq 30) (tq 31)) 29 false, og 33 (qm 0) 29 false, og 34 (qm 5) 29 false, og 35 (.indexS (tq 33) (tq 34)) 29 false, og 36 (.bin .eql (tq 32) (tq 35)) 29 false, oq 37 (.pick (tq 29) (cb true) (tq 36)), oq 6 (qm 37)])) (.region [oq 26 (qm 7), oq 27 (.bin .add (tq 26) (ci 1)), oq 7 (qm 27)])))))) (.seq (.region [oq 38 (qm 6), oq 39 (.un .not (tq 38))]) (.cond (tq 39) (.seq (.region [oq 4 (.move (cb false))]) .ret) .skip))))) (.region [oq 12 (qm 5), oq 13 (.bin .add (tq 12) (ci 1)), oq 5 (qm 13)])))))) (.seq (.region [oq 4 (.move (cb true))]) .ret)))
theorem c53 : cfn E0.P [] Tryz.f53 = some (ac53, [(.tmp 4)], 40) := by kernel_rfl

def isC (f : ByteArray) (c : UInt8) : Bool := (decide (f = ⟨#[]⟩) && decide (c.toNat < 128)) || f.data.toList.any fun a => decide (a = c)
def charsT (s f : ByteArray) : Bool := s.data.toList.all (isC f)
set_option maxHeartbeats 4000000 in
theorem rchars_ev (s f : ByteArray) (hs : s.size < 2 ^ 60) (hf : f.size < 2 ^ 60) (h : List AObj) : EvR E0 53 [str s, str f] h (boolv (charsT s f)) := by
  refine ev_of (fn := Tryz.f53) (hs := []) Tryz.func53 c53 (by simp) fun hcl => ?_
  have hsz : s.size = s.data.toList.length := by simp
  have hfz : f.size = f.data.toList.length := by simp
  generalize hR : charsT s f = R
  simp only [ac53, awH, ↓awD, awP, Nat.reduceLeDiff, Nat.reduceEqDiff, Nat.reduceAdd, Int.reduceLT, Int.reduceLE, Int.reduceEq]
  refine LoopF.list s.data.toList (by omega) (γ := Unit) (fun i _ => ⟨[(0, str s), (1, str f), (5, i64 i)], h⟩) (fun i _ => (s.data.toList.drop i).all (isC f) = R) () (by simpa [charsT] using hR) (weak_of rfl (by simp [look])) ?_ ?_
  · rintro i c _ hc hv hi e1 w3
    rw [drop_get hc, List.all_cons] at hv
    rw [← hsz] at hi e1
    have d1 : decide ((c.toNat : Int) < (128 : Int)) = decide (c.toNat < 128) := by rw [Bool.eq_iff_iff]; simp; omega
    simp only [e1, w3, d1, awH, ↓awD, awP, Nat.reduceLeDiff, Nat.reduceEqDiff, Nat.reduceAdd, Int.reduceLT, Int.reduceLE, Int.reduceEq]
    have inner : ∀ (b0 : Bool), (b0 || f.data.toList.any fun a => decide (a = c)) = isC f c → True := fun _ _ => trivial
    cases hfe : decide (f = ⟨#[]⟩)
    · simp only [hfe, w3, d1, awH, ↓awD, awP, Nat.reduceLeDiff, Nat.reduceEqDiff, Nat.reduceAdd, Int.reduceLT, Int.reduceLE, Int.reduceEq]
      refine LoopF.list f.data.toList (by omega) (γ := Bool) (fun j g => ⟨[(0, str s), (1, str f), (5, i64 i), (6, boolv g), (7, i64 j)], h⟩) (fun j g => (g || (f.data.toList.drop j).any fun a => decide (a = c)) = isC f c) (false) (by simp [isC, hfe]) (weak_of rfl (by simp [look])) ?_ ?_
      · rintro j a g ha hg hj e2 w4
        rw [drop_get ha, List.any_cons] at hg
        rw [← hfz] at hj e2
        have d2 : decide ((a.toNat : Int) = (c.toNat : Int)) = decide (a = c) := by rw [decide_eq_decide, ← UInt8.toNat_inj]; omega
        cases g
        · simp only [e2, w4, d2, awH, ↓awD, awP, Nat.reduceLeDiff, Nat.reduceEqDiff, Nat.reduceAdd, Int.reduceLT, Int.reduceLE, Int.reduceEq]
          repeat' (first | ((first | refine Need.mk (by first | (constructor <;> (first | omega | (simp only [awO] at *; omega) | (simp; omega))) | (first | omega | (simp only [awO] at *; omega) | (simp; omega))) (Byte.at ha ?_) | refine Byte.at ha ?_); simp only [d2, w4, szl, awH, ↓awD, awP, Nat.reduceLeDiff, Nat.reduceEqDiff, Nat.reduceAdd, Int.reduceLT, Int.reduceLE, Int.reduceEq]) | ((first | refine Need.mk (by first | (constructor <;> (first | omega | (simp only [awO] at *; omega) | (simp; omega))) | (first | omega | (simp only [awO] at *; omega) | (simp; omega))) (Byte.at hc ?_) | refine Byte.at hc ?_); simp only [d2, w4, szl, awH, ↓awD, awP, Nat.reduceLeDiff, Nat.reduceEqDiff, Nat.reduceAdd, Int.reduceLT, Int.reduceLE, Int.reduceEq]) | (refine Need.mk (by first | decide | (first | omega | (simp only [awO] at *; omega) | (simp; omega)) | (constructor <;> (first | omega | (simp only [awO] at *; omega) | (simp; omega)))) ?_; simp only [d2, w4, szl, awH, ↓awD, awP, Nat.reduceLeDiff, Nat.reduceEqDiff, Nat.reduceAdd, Int.reduceLT, Int.reduceLE, Int.reduceEq]))
          exact ⟨(j + 1, decide (a = c)), ⟨by simp only; omega, by simpa using hg⟩, by simp only; omega, weak_of rfl (by simp [look])⟩
        · simp only [e2, w4, awH, ↓awD, awP, Nat.reduceLeDiff, Nat.reduceEqDiff, Nat.reduceAdd, Int.reduceLT, Int.reduceLE, Int.reduceEq]
          exact ⟨(j + 1, true), ⟨by simp only; omega, by simpa using hg⟩, by simp only; omega, weak_of rfl (by simp [look])⟩
      · rintro g hg e2
        rw [drop_len, List.any_nil, Bool.or_false] at hg
        have e3 : decide ((f.data.toList.length : Int) < f.size) = false := by rw [hfz]; simp
        cases g
        · rw [← hg, Bool.false_and] at hv
          subst hv
          simp only [e3, w3, awH, ↓awD, awP, Nat.reduceLeDiff, Nat.reduceEqDiff, Nat.reduceAdd, Int.reduceLT, Int.reduceLE, Int.reduceEq]
          exact Fin.end hcl rfl (by first | rfl | exact (List.append_nil _).symm | (simp only [List.append_assoc]; rfl)) ⟨rfl, rfl⟩
        · rw [← hg, Bool.true_and] at hv
          simp only [e3, w3, awH, ↓awD, awP, Nat.reduceLeDiff, Nat.reduceEqDiff, Nat.reduceAdd, Int.reduceLT, Int.reduceLE, Int.reduceEq]
          exact ⟨(i + 1, ()), ⟨by simp only; omega, hv⟩, by simp only; omega, weak_of rfl (by simp [look])⟩
    · simp only [hfe, w3, d1, awH, ↓awD, awP, Nat.reduceLeDiff, Nat.reduceEqDiff, Nat.reduceAdd, Int.reduceLT, Int.reduceLE, Int.reduceEq]
      repeat' (first | ((first | refine Need.mk (by first | (constructor <;> (first | omega | (simp only [awO] at *; omega) | (simp; omega))) | (first | omega | (simp only [awO] at *; omega) | (simp; omega))) (Byte.at hc ?_) | refine Byte.at hc ?_); simp only [d1, w3, szl, awH, ↓awD, awP, Nat.reduceLeDiff, Nat.reduceEqDiff, Nat.reduceAdd, Int.reduceLT, Int.reduceLE, Int.reduceEq]) | (refine Need.mk (by first | decide | (first | omega | (simp only [awO] at *; omega) | (simp; omega)) | (constructor <;> (first | omega | (simp only [awO] at *; omega) | (simp; omega)))) ?_; simp only [d1, w3, szl, awH, ↓awD, awP, Nat.reduceLeDiff, Nat.reduceEqDiff, Nat.reduceAdd, Int.reduceLT, Int.reduceLE, Int.reduceEq]))
      refine LoopF.list f.data.toList (by omega) (γ := Bool) (fun j g => ⟨[(0, str s), (1, str f), (5, i64 i), (6, boolv g), (7, i64 j)], h⟩) (fun j g => (g || (f.data.toList.drop j).any fun a => decide (a = c)) = isC f c) (decide (c.toNat < 128)) (by simp [isC, hfe]) (weak_of rfl (by simp [look])) ?_ ?_
      · rintro j a g ha hg hj e2 w4
        rw [drop_get ha, List.any_cons] at hg
        rw [← hfz] at hj e2
        have d2 : decide ((a.toNat : Int) = (c.toNat : Int)) = decide (a = c) := by rw [decide_eq_decide, ← UInt8.toNat_inj]; omega
        cases g
        · simp only [e2, w4, d2, awH, ↓awD, awP, Nat.reduceLeDiff, Nat.reduceEqDiff, Nat.reduceAdd, Int.reduceLT, Int.reduceLE, Int.reduceEq]
          repeat' (first | ((first | refine Need.mk (by first | (constructor <;> (first | omega | (simp only [awO] at *; omega) | (simp; omega))) | (first | omega | (simp only [awO] at *; omega) | (simp; omega))) (Byte.at ha ?_) | refine Byte.at ha ?_); simp only [d2, w4, szl, awH, ↓awD, awP, Nat.reduceLeDiff, Nat.reduceEqDiff, Nat.reduceAdd, Int.reduceLT, Int.reduceLE, Int.reduceEq]) | ((first | refine Need.mk (by first | (constructor <;> (first | omega | (simp only [awO] at *; omega) | (simp; omega))) | (first | omega | (simp only [awO] at *; omega) | (simp; omega))) (Byte.at hc ?_) | refine Byte.at hc ?_); simp only [d2, w4, szl, awH, ↓awD, awP, Nat.reduceLeDiff, Nat.reduceEqDiff, Nat.reduceAdd, Int.reduceLT, Int.reduceLE, Int.reduceEq]) | (refine Need.mk (by first | decide | (first | omega | (simp only [awO] at *; omega) | (simp; omega)) | (constructor <;> (first | omega | (simp only [awO] at *; omega) | (simp; omega)))) ?_; simp only [d2, w4, szl, awH, ↓awD, awP, Nat.reduceLeDiff, Nat.reduceEqDiff, Nat.reduceAdd, Int.reduceLT, Int.reduceLE, Int.reduceEq]))
          exact ⟨(j + 1, decide (a = c)), ⟨by simp only; omega, by simpa using hg⟩, by simp only; omega, weak_of rfl (by simp [look])⟩
        · simp only [e2, w4, awH, ↓awD, awP, Nat.reduceLeDiff, Nat.reduceEqDiff, Nat.reduceAdd, Int.reduceLT, Int.reduceLE, Int.reduceEq]
          exact ⟨(j + 1, true), ⟨by simp only; omega, by simpa using hg⟩, by simp only; omega, weak_of rfl (by simp [look])⟩
      · rintro g hg e2
        rw [drop_len, List.any_nil, Bool.or_false] at hg
        have e3 : decide ((f.data.toList.length : Int) < f.size) = false := by rw [hfz]; simp
        cases g
        · rw [← hg, Bool.false_and] at hv
          subst hv
          simp only [e3, w3, awH, ↓awD, awP, Nat.reduceLeDiff, Nat.reduceEqDiff, Nat.reduceAdd, Int.reduceLT, Int.reduceLE, Int.reduceEq]
          exact Fin.end hcl rfl (by first | rfl | exact (List.append_nil _).symm | (simp only [List.append_assoc]; rfl)) ⟨rfl, rfl⟩
        · rw [← hg, Bool.true_and] at hv
          simp only [e3, w3, awH, ↓awD, awP, Nat.reduceLeDiff, Nat.reduceEqDiff, Nat.reduceAdd, Int.reduceLT, Int.reduceLE, Int.reduceEq]
          exact ⟨(i + 1, ()), ⟨by simp only; omega, hv⟩, by simp only; omega, weak_of rfl (by simp [look])⟩
  · rintro _ hv e1
    rw [drop_len, List.all_nil] at hv
    subst hv
    have e2 : decide ((s.data.toList.length : Int) < s.size) = false := by rw [hsz]; simp
    simp only [e2, awH, ↓awD, awP, Nat.reduceLeDiff, Nat.reduceEqDiff, Nat.reduceAdd, Int.reduceLT, Int.reduceLE, Int.reduceEq]
    exact Fin.end hcl rfl (by first | rfl | exact (List.append_nil _).symm | (simp only [List.append_assoc]; rfl)) ⟨rfl, rfl⟩
theorem rhasS_ev (l : List ByteArray) (s : ByteArray) (hl : l.length < 2 ^ 60) (h : List AObj) : EvR E0 38 [strl l, str s] h (i64 (idx (fun x => decide (x = s)) l 0)) := by
  refine ev_of (fn := Tryz.f38) (hs := []) Tryz.func38 c38 (by simp) fun hcl => ?_
  generalize hR : idx (fun x => decide (x = s)) l 0 = R
  simp only [ac38, awH, ↓awD, awP, Nat.reduceLeDiff, Nat.reduceEqDiff, Nat.reduceAdd, Int.reduceLT, Int.reduceLE, Int.reduceEq]
  refine LoopF.list l hl (γ := Unit) (fun i _ => ⟨[(0, strl l), (1, str s), (5, i64 i)], h⟩) (fun i _ => idx (fun x => decide (x = s)) (l.drop i) i = R) () (by simpa using hR) (weak_of rfl (by simp [look])) ?_ ?_
  · rintro i x _ hx hv hi e1 w3
    rw [drop_get hx] at hv
    simp only [idx] at hv
    have hgx := map_get str l i x hx
    simp only [e1, w3, awH, ↓awD, awP, Nat.reduceLeDiff, Nat.reduceEqDiff, Nat.reduceAdd, Int.reduceLT, Int.reduceLE, Int.reduceEq]
    refine Need.mk ⟨by omega, by omega⟩ (Elem.recs hgx ⟨rfl, rfl⟩ ?_)
    simp only [w3, awH, ↓awD, awP, Nat.reduceLeDiff, Nat.reduceEqDiff, Nat.reduceAdd, Int.reduceLT, Int.reduceLE, Int.reduceEq]
    cases hxs : decide (x = s)
    · simp only [hxs, Bool.false_eq_true, if_false] at hv
      simp only [w3, awH, ↓awD, awP, Nat.reduceLeDiff, Nat.reduceEqDiff, Nat.reduceAdd, Int.reduceLT, Int.reduceLE, Int.reduceEq]
      exact ⟨(i + 1, ()), ⟨hi, hv⟩, by simp only; omega, weak_of rfl (by simp [look])⟩
    · simp only [hxs, if_true] at hv
      subst hv
      simp only [awH, ↓awD, awP, Nat.reduceLeDiff, Nat.reduceEqDiff, Nat.reduceAdd, Int.reduceLT, Int.reduceLE, Int.reduceEq]
      exact Fin.end hcl rfl (by first | rfl | exact (List.append_nil _).symm | (simp only [List.append_assoc]; rfl)) ⟨rfl, rfl⟩
  · rintro _ hv e1
    rw [drop_len] at hv
    simp only [idx] at hv
    subst hv
    simp only [e1, awH, ↓awD, awP, Nat.reduceLeDiff, Nat.reduceEqDiff, Nat.reduceAdd, Int.reduceLT, Int.reduceLE, Int.reduceEq]
    exact Fin.end hcl rfl (by first | rfl | exact (List.append_nil _).symm | (simp only [List.append_assoc]; rfl)) ⟨rfl, rfl⟩
theorem rtexts_ev (a b : List ByteArray) (hl : a.length < 2 ^ 60) (hb : b.length < 2 ^ 60) (h : List AObj) : EvR E0 39 [strl a, strl b] h (boolv (decide (a = b))) := by
  have hs : all2 (fun x y => decide (x = y)) a b = decide (a = b) := by
    rw [Bool.eq_iff_iff, all2_iff fun x _ y => by simp, decide_eq_true_eq]
  rw [← hs]
  refine ev_of (fn := Tryz.f39) (hs := []) Tryz.func39 c39 (by simp) fun hcl => ?_
  cases hlen : decide ((a.length : Int) = (b.length : Int))
  · have hne : a.length ≠ b.length := by rw [decide_eq_false_iff_not] at hlen; omega
    rw [all2_len hne]
    simp only [ac39, hlen, awH, ↓awD, awP, Nat.reduceLeDiff, Nat.reduceEqDiff, Nat.reduceAdd, Int.reduceLT, Int.reduceLE, Int.reduceEq]
    exact Fin.end hcl rfl (by first | rfl | exact (List.append_nil _).symm | (simp only [List.append_assoc]; rfl)) ⟨rfl, rfl⟩
  · have hle : a.length = b.length := by rw [decide_eq_true_eq] at hlen; omega
    generalize hR : all2 (fun x y => decide (x = y)) a b = R
    simp only [ac39, hlen, awH, ↓awD, awP, Nat.reduceLeDiff, Nat.reduceEqDiff, Nat.reduceAdd, Int.reduceLT, Int.reduceLE, Int.reduceEq]
    refine LoopF.list a hl (γ := Unit) (fun i _ => ⟨[(0, strl a), (1, strl b), (5, i64 i)], h⟩) (fun i _ => all2 (fun x y => decide (x = y)) (a.drop i) (b.drop i) = R) () (by simpa using hR) (weak_of rfl (by simp [look])) ?_ ?_
    · rintro i x _ hx hv hi e1 w3
      obtain ⟨y, hy⟩ : ∃ y, b[i]? = some y := ⟨_, List.getElem?_eq_getElem (by omega)⟩
      rw [drop_get hx, drop_get hy] at hv
      simp only [all2] at hv
      have hgx := map_get str a i x hx
      have hgy := map_get str b i y hy
      simp only [e1, w3, awH, ↓awD, awP, Nat.reduceLeDiff, Nat.reduceEqDiff, Nat.reduceAdd, Int.reduceLT, Int.reduceLE, Int.reduceEq]
      refine Need.mk ⟨by omega, by omega⟩ (Elem.recs hgx ⟨rfl, rfl⟩ ?_)
      simp only [w3, awH, ↓awD, awP, Nat.reduceLeDiff, Nat.reduceEqDiff, Nat.reduceAdd, Int.reduceLT, Int.reduceLE, Int.reduceEq]
      refine Need.mk ⟨by omega, by omega⟩ (Elem.recs hgy ⟨rfl, rfl⟩ ?_)
      simp only [w3, awH, ↓awD, awP, Nat.reduceLeDiff, Nat.reduceEqDiff, Nat.reduceAdd, Int.reduceLT, Int.reduceLE, Int.reduceEq]
      cases h1 : decide (x = y)
      · rw [h1, Bool.false_and] at hv
        subst hv
        simp only [awH, ↓awD, awP, Nat.reduceLeDiff, Nat.reduceEqDiff, Nat.reduceAdd, Int.reduceLT, Int.reduceLE, Int.reduceEq]
        exact Fin.end hcl rfl (by first | rfl | exact (List.append_nil _).symm | (simp only [List.append_assoc]; rfl)) ⟨rfl, rfl⟩
      · rw [h1, Bool.true_and] at hv
        simp only [w3, awH, ↓awD, awP, Nat.reduceLeDiff, Nat.reduceEqDiff, Nat.reduceAdd, Int.reduceLT, Int.reduceLE, Int.reduceEq]
        exact ⟨(i + 1, ()), ⟨hi, hv⟩, by simp only; omega, weak_of rfl (by simp [look])⟩
    · rintro _ hv e1
      rw [drop_len, hle, drop_len] at hv
      simp only [all2] at hv
      subst hv
      simp only [e1, awH, ↓awD, awP, Nat.reduceLeDiff, Nat.reduceEqDiff, Nat.reduceAdd, Int.reduceLT, Int.reduceLE, Int.reduceEq]
      exact Fin.end hcl rfl (by first | rfl | exact (List.append_nil _).symm | (simp only [List.append_assoc]; rfl)) ⟨rfl, rfl⟩
set_option maxHeartbeats 4000000 in
theorem rsameV_ev : ∀ (n : Nat) (a b : Val), szV a ≤ n → mxV a ≤ 2 ^ 48 → mxV b ≤ 2 ^ 48 → ∀ h, EvR E0 22 [valv a, valv b] h (boolv (eqV a b)) := by
  intro n
  induction n with
  | zero => intro a b hs; have := szV_eq a; omega
  | succ n ih =>
    intro a b hs ha hb h
    have hA := mxV_le a
    have hB := mxV_le b
    have ht := fun h => rtexts_ev a.names b.names (by have := mxB_len a.names; omega) (by have := mxB_len b.names; omega) h
    have la := mxVs_len a.l
    have lb := mxVs_len b.l
    have hsz := szV_eq a
    rw [eqV_eq]
    refine ev_of (fn := Tryz.f22) (hs := []) Tryz.func22 c22 (by simp) fun hcl => ?_
    have hpl := hpl h
    have dl : decide ((a.l.length : Int) = (b.l.length : Int)) = decide (a.l.length = b.l.length) := by rw [decide_eq_decide]; omega
    cases k1 : (decide (a.kind = b.kind))
    · simp only [ac22, valv_eq, hpl, aw21, k1, awH, ↓awD, awP, Nat.reduceLeDiff, Nat.reduceEqDiff, Nat.reduceAdd, Int.reduceLT, Int.reduceLE, Int.reduceEq]
      try (rw [k1] at ht; ((first | refine EvF.ret (ht _) ?_ | refine EvRF.ret (ht _) ?_); simp only [hpl, aw21, awH, ↓awD, awP, Nat.reduceLeDiff, Nat.reduceEqDiff, Nat.reduceAdd, Int.reduceLT, Int.reduceLE, Int.reduceEq]))
      exact Fin.end hcl rfl (by first | rfl | exact (List.append_nil _).symm | (simp only [List.append_assoc]; rfl)) ⟨by simp, rfl⟩
    cases k2 : (decide (a.n = b.n))
    · simp only [ac22, valv_eq, hpl, k1, k2, awH, ↓awD, awP, Nat.reduceLeDiff, Nat.reduceEqDiff, Nat.reduceAdd, Int.reduceLT, Int.reduceLE, Int.reduceEq]
      try (rw [k2] at ht; ((first | refine EvF.ret (ht _) ?_ | refine EvRF.ret (ht _) ?_); simp only [hpl, aw21, awH, ↓awD, awP, Nat.reduceLeDiff, Nat.reduceEqDiff, Nat.reduceAdd, Int.reduceLT, Int.reduceLE, Int.reduceEq]))
      exact Fin.end hcl rfl (by first | rfl | exact (List.append_nil _).symm | (simp only [List.append_assoc]; rfl)) ⟨by simp, rfl⟩
    cases k3 : (decide (a.s = b.s))
    · simp only [ac22, valv_eq, hpl, k1, k2, k3, awH, ↓awD, awP, Nat.reduceLeDiff, Nat.reduceEqDiff, Nat.reduceAdd, Int.reduceLT, Int.reduceLE, Int.reduceEq]
      try (rw [k3] at ht; ((first | refine EvF.ret (ht _) ?_ | refine EvRF.ret (ht _) ?_); simp only [hpl, aw21, awH, ↓awD, awP, Nat.reduceLeDiff, Nat.reduceEqDiff, Nat.reduceAdd, Int.reduceLT, Int.reduceLE, Int.reduceEq]))
      exact Fin.end hcl rfl (by first | rfl | exact (List.append_nil _).symm | (simp only [List.append_assoc]; rfl)) ⟨by simp, rfl⟩
    cases k4 : (decide (a.names = b.names))
    · simp only [ac22, valv_eq, hpl, k1, k2, k3, k4, awH, ↓awD, awP, Nat.reduceLeDiff, Nat.reduceEqDiff, Nat.reduceAdd, Int.reduceLT, Int.reduceLE, Int.reduceEq]
      try (rw [k4] at ht; ((first | refine EvF.ret (ht _) ?_ | refine EvRF.ret (ht _) ?_); simp only [hpl, aw21, awH, ↓awD, awP, Nat.reduceLeDiff, Nat.reduceEqDiff, Nat.reduceAdd, Int.reduceLT, Int.reduceLE, Int.reduceEq]))
      exact Fin.end hcl rfl (by first | rfl | exact (List.append_nil _).symm | (simp only [List.append_assoc]; rfl)) ⟨by simp, rfl⟩
    cases k5 : decide (a.l.length = b.l.length)
    · rw [k5] at dl
      rw [all2_len (of_decide_eq_false k5)]
      rw [k4] at ht
      simp only [ac22, valv_eq, hpl, dl, k1, k2, k3, k4, awH, ↓awD, awP, Nat.reduceLeDiff, Nat.reduceEqDiff, Nat.reduceAdd, Int.reduceLT, Int.reduceLE, Int.reduceEq]
      ((first | refine EvF.ret (ht _) ?_ | refine EvRF.ret (ht _) ?_); simp only [hpl, dl, aw21, awH, ↓awD, awP, Nat.reduceLeDiff, Nat.reduceEqDiff, Nat.reduceAdd, Int.reduceLT, Int.reduceLE, Int.reduceEq])
      exact Fin.end hcl rfl (by first | rfl | exact (List.append_nil _).symm | (simp only [List.append_assoc]; rfl)) ⟨by simp, rfl⟩
    · rw [k5] at dl
      have hle := of_decide_eq_true k5
      rw [k4] at ht
      rw [Bool.true_and, Bool.true_and, Bool.true_and, Bool.true_and]
      generalize hR : all2 eqV a.l b.l = R
      simp only [ac22, valv_eq, hpl, dl, k1, k2, k3, k4, awH, ↓awD, awP, Nat.reduceLeDiff, Nat.reduceEqDiff, Nat.reduceAdd, Int.reduceLT, Int.reduceLE, Int.reduceEq]
      ((first | refine EvF.ret (ht _) ?_ | refine EvRF.ret (ht _) ?_); simp only [hpl, dl, aw21, awH, ↓awD, awP, Nat.reduceLeDiff, Nat.reduceEqDiff, Nat.reduceAdd, Int.reduceLT, Int.reduceLE, Int.reduceEq])
      generalize hO : h ++ [AObj.cells [i64 a.kind, i64 a.n, str a.s, strl a.names, vall a.l]] ++ [AObj.cells [i64 b.kind, i64 b.n, str b.s, strl b.names, vall b.l]] = H at *
      have gA : H[h.length]? = some (AObj.cells [i64 a.kind, i64 a.n, str a.s, strl a.names, vall a.l]) := by rw [← hO]; simp
      have gB : H[h.length + 1]? = some (AObj.cells [i64 b.kind, i64 b.n, str b.s, strl b.names, vall b.l]) := by rw [← hO]; simp
      refine LoopF.list a.l (by omega) (γ := Unit) (fun i _ => ⟨[(2, .ref h.length 0), (3, .ref (h.length + 1) 0), (5, i64 i)], H⟩) (fun i _ => all2 eqV (a.l.drop i) (b.l.drop i) = R) () (by simpa using hR) (weak_of (by first | rfl | exact hO) (by simp [look])) ?_ ?_
      · rintro i x _ hx hv hi e1 w3
        obtain ⟨y, hy⟩ : ∃ y, b.l[i]? = some y := ⟨_, List.getElem?_eq_getElem (by omega)⟩
        rw [drop_get hx, drop_get hy] at hv
        simp only [all2] at hv
        have hgx := map_get valv a.l i x hx
        have hgy := map_get valv b.l i y hy
        have hxm := List.mem_of_getElem? hx
        have hym := List.mem_of_getElem? hy
        have hc := fun h => ih x y (by have := szVs_mem hxm; omega) (by have := mxVs_mem hxm; omega) (by have := mxVs_mem hym; omega) h
        simp only [valv_eq] at hc
        simp only [e1, gA, gB, w3, awH, ↓awD, awP, Nat.reduceLeDiff, Nat.reduceEqDiff, Nat.reduceAdd, Int.reduceLT, Int.reduceLE, Int.reduceEq]
        cases h1 : eqV x y
        · rw [h1] at hc hv
          rw [Bool.false_and] at hv
          subst hv
          repeat' (first | ((try refine Need.mk (by first | (first | omega | (simp only [awO] at *; omega) | (simp; omega)) | (constructor <;> (first | omega | (simp only [awO] at *; omega) | (simp; omega)))) ?_); refine Elem.recs hgx (by first | (rw [valv_eq]; exact ⟨rfl, rfl⟩) | exact ⟨rfl, rfl⟩) ?_; simp only [valv_eq, w3, gA, gB, aw21, awH, ↓awD, awP, Nat.reduceLeDiff, Nat.reduceEqDiff, Nat.reduceAdd, Int.reduceLT, Int.reduceLE, Int.reduceEq]) | ((try refine Need.mk (by first | (first | omega | (simp only [awO] at *; omega) | (simp; omega)) | (constructor <;> (first | omega | (simp only [awO] at *; omega) | (simp; omega)))) ?_); refine Elem.recs hgy (by first | (rw [valv_eq]; exact ⟨rfl, rfl⟩) | exact ⟨rfl, rfl⟩) ?_; simp only [valv_eq, w3, gA, gB, aw21, awH, ↓awD, awP, Nat.reduceLeDiff, Nat.reduceEqDiff, Nat.reduceAdd, Int.reduceLT, Int.reduceLE, Int.reduceEq]) | ((first | refine EvF.ret (hc _) ?_ | refine EvRF.ret (hc _) ?_); simp only [w3, aw21, awH, ↓awD, awP, Nat.reduceLeDiff, Nat.reduceEqDiff, Nat.reduceAdd, Int.reduceLT, Int.reduceLE, Int.reduceEq]))
          rw [← hO]
          exact Fin.end hcl rfl (by first | rfl | exact (List.append_nil _).symm | (simp only [List.append_assoc]; rfl)) ⟨rfl, rfl⟩
        · rw [h1] at hc hv
          rw [Bool.true_and] at hv
          repeat' (first | ((try refine Need.mk (by first | (first | omega | (simp only [awO] at *; omega) | (simp; omega)) | (constructor <;> (first | omega | (simp only [awO] at *; omega) | (simp; omega)))) ?_); refine Elem.recs hgx (by first | (rw [valv_eq]; exact ⟨rfl, rfl⟩) | exact ⟨rfl, rfl⟩) ?_; simp only [valv_eq, w3, gA, gB, aw21, awH, ↓awD, awP, Nat.reduceLeDiff, Nat.reduceEqDiff, Nat.reduceAdd, Int.reduceLT, Int.reduceLE, Int.reduceEq]) | ((try refine Need.mk (by first | (first | omega | (simp only [awO] at *; omega) | (simp; omega)) | (constructor <;> (first | omega | (simp only [awO] at *; omega) | (simp; omega)))) ?_); refine Elem.recs hgy (by first | (rw [valv_eq]; exact ⟨rfl, rfl⟩) | exact ⟨rfl, rfl⟩) ?_; simp only [valv_eq, w3, gA, gB, aw21, awH, ↓awD, awP, Nat.reduceLeDiff, Nat.reduceEqDiff, Nat.reduceAdd, Int.reduceLT, Int.reduceLE, Int.reduceEq]) | ((first | refine EvF.ret (hc _) ?_ | refine EvRF.ret (hc _) ?_); simp only [w3, aw21, awH, ↓awD, awP, Nat.reduceLeDiff, Nat.reduceEqDiff, Nat.reduceAdd, Int.reduceLT, Int.reduceLE, Int.reduceEq]))
          exact ⟨(i + 1, ()), ⟨hi, hv⟩, by simp only; omega, weak_of rfl (by simp [look])⟩
      · rintro _ hv e1
        rw [drop_len, hle, drop_len] at hv
        simp only [all2] at hv
        subst hv
        simp only [e1, gA, awH, ↓awD, awP, Nat.reduceLeDiff, Nat.reduceEqDiff, Nat.reduceAdd, Int.reduceLT, Int.reduceLE, Int.reduceEq]
        rw [← hO]
        exact Fin.end hcl rfl (by first | rfl | exact (List.append_nil _).symm | (simp only [List.append_assoc]; rfl)) ⟨rfl, rfl⟩
theorem rsame_same (a b : Val) (ha : mxV a ≤ 2 ^ 48) (hb : mxV b ≤ 2 ^ 48) (h : List AObj) : EvR E0 13 [valv a, valv b] h (boolv (eqV a b)) := by
  have hc := fun h => rsameV_ev (szV a) a b (Nat.le_refl _) ha hb h
  simp only [valv_eq] at hc
  refine ev_of (fn := Tryz.f13) (hs := []) Tryz.func13 c13 (by simp) fun hcl => ?_
  simp only [ac13, valv_eq, hpl, awH, ↓awD, awP, Nat.reduceLeDiff, Nat.reduceEqDiff, Nat.reduceAdd, Int.reduceLT, Int.reduceLE, Int.reduceEq]
  repeat' ((first | refine EvF.ret (hc _) ?_ | refine EvRF.ret (hc _) ?_); simp only [hpl, aw21, awH, ↓awD, awP, Nat.reduceLeDiff, Nat.reduceEqDiff, Nat.reduceAdd, Int.reduceLT, Int.reduceLE, Int.reduceEq])
  exact Fin.end hcl rfl (by first | rfl | exact (List.append_nil _).symm | (simp only [List.append_assoc]; rfl)) ⟨rfl, rfl⟩
end Go.Abs.Fr
