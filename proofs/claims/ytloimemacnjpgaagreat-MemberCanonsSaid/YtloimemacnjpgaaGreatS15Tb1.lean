/- Tables: texts that stand once, alphabets, parts. -/
import Derived.Test.YtloimemacnjpgaaGreatS15M1
set_option linter.all false
namespace Go.Abs.Fr
open Go Go.Abs Go.Proofs
set_option linter.unusedSimpArgs false
set_option maxRecDepth 100000

def ac75 : ACode := (.seq (.region [oq 2 (.move (cb false))]) (.seq (.region [oq 3 (qm 0), oq 4 (.bin .eql (tq 3) (ci 2)), oq 5 (qm 4), og 6 (qm 0) 5 false, og 7 (.bin .eql (tq 6) (ci 5)) 5 false, oq 8 (.pick (tq 5) (cb true) (tq 7)), oq 9 (qm 8), og 10 (qm 0) 9 false, og 11 (.bin .eql (tq 10) (ci 6)) 9 false, oq 12 (.pick (tq 9) (cb true) (tq 11)), oq 13 (qm 12), og 14 (qm 0) 13 false, og 15 (.bin .eql (tq 14) (ci 7)) 13 false, oq 16 (.pick (tq 13) (cb true) (tq 15)), oq 17 (qm 16), og 18 (qm 0) 17 false, og 19 (.bin .eql (tq 18) (ci 9)) 17 false, oq 20 (.pick (tq 17) (cb true) (tq 19)), oq 2 (qm 20)]) .ret))
theorem c75 : cfn E0.P [] Tryz.f75 = some (ac75, [(.tmp 2)], 21) := by kernel_rfl
def ac78 : ACode := (.seq (.region [oq 2 (.move (cb false))]) (.seq (.region [oq 6 (.makeMap .str), oq 3 (qm 6)]) (.seq (.seq (.region [oq 7 (qm 0), oq 8 (qn 7), oq 9 (.move (ci 0))]) (.block 0 (.loop (.seq (.region [oq 10 (.bin .lss (tq 9) (tq 8))]) (.seq (.cond (tq 10) .skip (.exit 0)) (.seq (.block 1 (.seq (.region [oq 11 (qx 1 7 9), oq 12 (ql 11), oq 5 (qm 12)]) (.seq (.seq (.region [oq 13 (qm 3), oq 14 (qm 5), oq 15 (.lookup false .str zb (tq 13) (tq 14))]) (.cond (tq 15) (.seq (.region [oq 2 (.move (cb false))]) .ret) .skip)) (.region [oq 16 (qm 3), oq 17 (qm 5), oz (.mapSet .str (tq 16) (tq 17) (cb true))])))) (.region [oq 18 (.bin .add (tq 9) (ci 1)), oq 9 (qm 18)]))))))) (.seq (.region [oq 2 (.move (cb true))]) .ret))))
theorem c78 : cfn E0.P [] Tryz.f78 = some (ac78, [(.tmp 2)], 19) := by kernel_rfl

def hasS (m : List ByteArray) (s : ByteArray) : Bool := m.any fun x => decide (s = x)
theorem hasS_iff {m : List ByteArray} {s : ByteArray} : hasS m s = true ↔ s ∈ m := by simp [hasS]
def onceW : List ByteArray → List ByteArray → Bool
  | _, [] => true
  | m, s :: l => !hasS m s && onceW (m ++ [s]) l
def onceT (l : List ByteArray) : Bool := onceW [] l
def ent (s : ByteArray) : Value × AV := (.string s, .lit (.bool true))
theorem mix_ent (s : ByteArray) : ∀ (m : List ByteArray), (s ∈ m → ∃ i, mix (m.map ent) (.string s) = some i ∧ i < m.length) ∧ (s ∉ m → mix (m.map ent) (.string s) = none)
  | [] => ⟨fun h => by simp at h, fun _ => rfl⟩
  | x :: m => by
    obtain ⟨h1, h2⟩ := mix_ent s m
    by_cases hx : s = x
    · subst hx
      exact ⟨fun _ => ⟨0, by simp [mix, ent, sameKey], by simp⟩, fun h => absurd (List.mem_cons_self) h⟩
    · have hk : sameKey (.string s) (ent x).1 = false := by simp [ent, sameKey, hx]
      refine ⟨fun h => ?_, fun h => ?_⟩
      · obtain ⟨i, h3, h4⟩ := h1 (by simpa [hx] using h)
        exact ⟨i + 1, by simp [mix, hk, h3], by simpa using h4⟩
      · simp [mix, hk, h2 (by simpa [hx] using h)]
theorem mget_ent (s : ByteArray) (m : List ByteArray) : mget (m.map ent) (.string s) = if hasS m s = true then some (AV.lit (.bool true)) else none := by
  unfold mget
  by_cases h : s ∈ m
  · obtain ⟨i, h1, h2⟩ := (mix_ent s m).1 h
    rw [h1, if_pos (hasS_iff.2 h)]
    simp [List.getElem?_map, List.getElem?_eq_getElem h2, ent]
  · rw [(mix_ent s m).2 h, if_neg (fun hh => h (hasS_iff.1 hh))]
theorem mput_ent (s : ByteArray) (m : List ByteArray) (h : s ∉ m) : mput (m.map ent) (.string s) (.lit (.bool true)) = (m ++ [s]).map ent := by
  unfold mput
  rw [(mix_ent s m).2 h]
  simp [ent]

theorem once_ev (l : List ByteArray) (hl : l.length < 2 ^ 60) (h : List AObj) : EvR E0 78 [strl l] h (boolv (onceT l)) := by
  refine ev_of (fn := Tryz.f78) (hs := []) Tryz.func78 c78 (by simp) fun hcl => ?_
  unfold onceT
  generalize hR : onceW [] l = R
  simp only [ac78, awH, ↓awD, awP, Nat.reduceLeDiff, Nat.reduceEqDiff, Nat.reduceAdd, Int.reduceLT, Int.reduceLE, Int.reduceEq]
  refine LoopF.list l hl (γ := Unit) (fun i _ => ⟨[(3, .mp h.length), (7, strl l), (8, i64 l.length), (9, i64 i)], h ++ [AObj.map KK.str ((l.take i).map ent)]⟩) (fun i _ => onceW (l.take i) (l.drop i) = R) () (by simpa using hR) (weak_of (by simp) (by simp [look])) ?_ ?_
  · rintro i a _ ha hv hi e1 w3
    rw [drop_get ha] at hv
    unfold onceW at hv
    have hga := map_get str l i a ha
    have htk : l.take (i + 1) = l.take i ++ [a] := by rw [List.take_add_one, ha]; rfl
    simp only [e1, w3, awH, ↓awD, awP, Nat.reduceLeDiff, Nat.reduceEqDiff, Nat.reduceAdd, Int.reduceLT, Int.reduceLE, Int.reduceEq]
    ((try refine Need.mk (by first | (first | omega | (simp only [awO] at *; omega) | (simp; omega)) | (constructor <;> (first | omega | (simp only [awO] at *; omega) | (simp; omega)))) ?_); refine Elem.recs hga (by first | (rw [str]; exact ⟨rfl, rfl⟩) | exact ⟨rfl, rfl⟩) ?_; simp only [str, w3, aw21, awH, ↓awD, awP, Nat.reduceLeDiff, Nat.reduceEqDiff, Nat.reduceAdd, Int.reduceLT, Int.reduceLE, Int.reduceEq])
    cases hm : hasS (l.take i) a
    rotate_left
    · simp only [mget_ent, hm, if_true, awH, ↓awD, awP, Nat.reduceLeDiff, Nat.reduceEqDiff, Nat.reduceAdd, Int.reduceLT, Int.reduceLE, Int.reduceEq]
      refine mGet.some rfl ?_
      simp only [awH, ↓awD, awP, Nat.reduceLeDiff, Nat.reduceEqDiff, Nat.reduceAdd, Int.reduceLT, Int.reduceLE, Int.reduceEq]
      simp only [hm, Bool.not_true, Bool.false_and] at hv
      subst hv
      exact Fin.end hcl rfl (by first | rfl | exact (List.append_nil _).symm | (simp only [List.append_assoc]; rfl)) ⟨rfl, rfl⟩
    · simp only [hm, Bool.not_false, Bool.true_and] at hv
      have hmm : a ∉ l.take i := fun hh => by rw [hasS_iff.2 hh] at hm; cases hm
      simp only [mget_ent, hm, mput_ent a _ hmm, Bool.false_eq_true, if_false, w3, awH, ↓awD, awP, Nat.reduceLeDiff, Nat.reduceEqDiff, Nat.reduceAdd, Int.reduceLT, Int.reduceLE, Int.reduceEq]
      refine mGet.none rfl ?_
      simp only [mget_ent, hm, mput_ent a _ hmm, Bool.false_eq_true, if_false, w3, awH, ↓awD, awP, Nat.reduceLeDiff, Nat.reduceEqDiff, Nat.reduceAdd, Int.reduceLT, Int.reduceLE, Int.reduceEq]
      refine ⟨(i + 1, ()), ⟨hi, by rw [htk]; exact hv⟩, by simp only; omega, weak_of (by simp only; rw [htk]) (by simp [look])⟩
  · rintro _ hv e1
    rw [drop_len] at hv
    unfold onceW at hv
    subst hv
    simp only [e1, awH, ↓awD, awP, Nat.reduceLeDiff, Nat.reduceEqDiff, Nat.reduceAdd, Int.reduceLT, Int.reduceLE, Int.reduceEq]
    exact Fin.end hcl rfl (by first | rfl | exact (List.append_nil _).symm | (simp only [List.append_assoc]; rfl)) ⟨rfl, rfl⟩

theorem sizes_ev (k : Int) (h : List AObj) : EvR E0 75 [i64 k] h (boolv (decide (k = 2) || (decide (k = 5) || (decide (k = 6) || (decide (k = 7) || decide (k = 9)))))) := by
  refine ev_of (fn := Tryz.f75) (hs := []) Tryz.func75 c75 (by simp) fun hcl => ?_
  simp only [ac75, awH, ↓awD, awP, Nat.reduceLeDiff, Nat.reduceEqDiff, Nat.reduceAdd, Int.reduceLT, Int.reduceLE, Int.reduceEq]
  repeat' (refine BrF.mk (fun hb => ?_) (fun hb => ?_) <;> (try rw [hb]) <;> simp only [aw21, aw21, awH, ↓awD, awP, Nat.reduceLeDiff, Nat.reduceEqDiff, Nat.reduceAdd, Int.reduceLT, Int.reduceLE, Int.reduceEq])
  all_goals (refine Fin.end hcl rfl (by first | rfl | exact (List.append_nil _).symm | (simp only [List.append_assoc]; rfl)) ⟨?_, rfl⟩; first | rfl | ((try simp only [dnat, decide_eq_true_eq, decide_eq_false_iff_not, List.length_eq_zero_iff, List.length_pos_iff] at *); first | (simp [*, parted]; done) | (simp [*, parted]; omega) | (clear hcl; simp [*, parted] <;> grind) | (simp [*, parted])))

def ac65 : ACode := (.seq (.region [oq 2 (.move (cb false))]) (.seq (.seq (.region [oq 4 (qm 0), oq 5 (.len true (tq 4)), oq 6 (.move (ci 0))]) (.block 0 (.loop (.seq (.region [oq 7 (.bin .lss (tq 6) (tq 5))]) (.seq (.cond (tq 7) .skip (.exit 0)) (.seq (.block 1 (.seq (.region [oq 8 (qm 6), oq 3 (qm 8)]) (.seq (.draw [oq 9 (qm 0), oq 10 (qm 3), oq 11 (.indexS (tq 9) (tq 10)), oq 12 (.bin .geq (tq 11) (.const (.int .u8 128))), oq 13 (qm 12), og 14 (qm 3) 13 false, og 15 (.bin .gtr (tq 14) (ci 0)) 13 false, og 16 (qm 15) 13 false, og 17 (qm 0) 16 true, og 18 (qm 3) 16 true, og 19 (.bin .sub (tq 18) (ci 1)) 16 true, og 20 (.indexS (tq 17) (tq 19)) 16 true, og 21 (qm 0) 16 true, og 22 (qm 3) 16 true, og 23 (.indexS (tq 21) (tq 22)) 16 true, og 24 (.bin .geq (tq 20) (tq 23)) 16 true, og 25 (.pick (tq 16) (tq 24) (cb false)) 13 false, oq 26 (.pick (tq 13) (cb true) (tq 25))]) (.cond (tq 26) (.seq (.region [oq 2 (.move (cb false))]) .ret) .skip)))) (.region [oq 27 (.bin .add (tq 6) (ci 1)), oq 6 (qm 27)]))))))) (.seq (.region [oq 2 (.move (cb true))]) .ret)))
theorem c65 : cfn E0.P [] Tryz.f65 = some (ac65, [(.tmp 2)], 28) := by kernel_rfl
def ac77 : ACode := (.seq (.region [oq 2 (.move (cb false))]) (.seq (.seq (.region [oq 5 (qm 0), oq 6 (qn 5), oq 7 (.move (ci 0))]) (.block 0 (.loop (.seq (.region [oq 8 (.bin .lss (tq 7) (tq 6))]) (.seq (.cond (tq 8) .skip (.exit 0)) (.seq (.block 1 (.seq (.region [oq 9 (qm 7), oq 10 (qx 2 5 7), oq 11 (qs 2 10), oq 4 (.alloc [zi, zi]), oq 3 (qm 9), oz (.store 2 (tq 4) (tq 11))]) (.seq (.draw [oq 12 (qf 0 4), oq 13 (ql 12), oq 14 (qf 1 4), oq 15 (ql 14), oq 16 (.bin .gtr (tq 13) (tq 15)), oq 17 (qm 16), og 18 (qm 3) 17 false, og 19 (.bin .gtr (tq 18) (ci 0)) 17 false, og 20 (qm 19) 17 false, og 21 (qm 0) 20 true, og 22 (qm 3) 20 true, og 23 (.bin .sub (tq 22) (ci 1)) 20 true, og 24 (qx 2 21 23) 20 true, og 25 (qf 1 24) 20 true, og 26 (ql 25) 20 true, og 27 (.bin .eql (tq 26) (ci 9223372036854775807)) 20 true, og 28 (qm 27) 20 true, og 29 (qf 0 4) 28 false, og 30 (ql 29) 28 false, og 31 (qm 0) 28 false, og 32 (qm 3) 28 false, og 33 (.bin .sub (tq 32) (ci 1)) 28 false, og 34 (qx 2 31 33) 28 false, og 35 (qf 1 34) 28 false, og 36 (ql 35) 28 false, og 37 (.bin .add (tq 36) (ci 1)) 28 false, og 38 (.bin .leq (tq 30) (tq 37)) 28 false, og 39 (.pick (tq 28) (cb true) (tq 38)) 20 true, og 40 (.pick (tq 20) (tq 39) (cb false)) 17 false, oq 41 (.pick (tq 17) (cb true) (tq 40))]) (.cond (tq 41) (.seq (.region [oq 2 (.move (cb false))]) .ret) .skip)))) (.region [oq 42 (.bin .add (tq 7) (ci 1)), oq 7 (qm 42)]))))))) (.seq (.region [oq 2 (.move (cb true))]) .ret)))
theorem c77 : cfn E0.P [] Tryz.f77 = some (ac77, [(.tmp 2)], 43) := by kernel_rfl

def alphaW : Option UInt8 → List UInt8 → Bool
  | _, [] => true
  | p, c :: l => decide (c.toNat < 128) && ((match p with | none => true | some q => decide (q.toNat < c.toNat)) && alphaW (some c) l)
def alphaT (s : ByteArray) : Bool := alphaW none s.data.toList
def prevB (l : List UInt8) (i : Nat) : Option UInt8 := match i with | 0 => none | i + 1 => l[i]?

theorem alphabet_ev (s : ByteArray) (hs : s.size < 2 ^ 60) (h : List AObj) : EvR E0 65 [str s] h (boolv (alphaT s)) := by
  refine ev_of (fn := Tryz.f65) (hs := []) Tryz.func65 c65 (by simp) fun hcl => ?_
  have hsz : s.size = s.data.toList.length := by simp
  unfold alphaT
  generalize hR : alphaW none s.data.toList = R
  simp only [ac65, awH, ↓awD, awP, Nat.reduceLeDiff, Nat.reduceEqDiff, Nat.reduceAdd, Int.reduceLT, Int.reduceLE, Int.reduceEq]
  refine LoopF.list s.data.toList (by omega) (γ := Unit) (fun i _ => ⟨[(0, str s), (5, i64 s.size), (6, i64 i)], h⟩) (fun i _ => alphaW (prevB s.data.toList i) (s.data.toList.drop i) = R) () (by simpa [prevB] using hR) (weak_of rfl (by simp [look])) ?_ ?_
  · rintro i a _ ha hv hi e1 w3
    rw [drop_get ha] at hv
    simp only [alphaW] at hv
    rw [← hsz] at hi e1
    have hnx : prevB s.data.toList (i + 1) = some a := ha
    have d1 : decide ((128 : Int) ≤ (a.toNat : Int)) = !decide (a.toNat < 128) := by rw [Bool.eq_iff_iff]; simp; omega
    have w00 : IntKind.i64.wrap 1 = 1 := wrap_i64 1 (by omega) (by omega)
    cases i with
    | zero =>
      simp only [prevB] at hv
      have e0 : decide ((0 : Int) < (s.size : Int)) = true := by simp; omega
      simp only [e0, e1, w3, Int.cast_ofNat_Int, awH, ↓awD, awP, Nat.reduceLeDiff, Nat.reduceEqDiff, Nat.reduceAdd, Int.reduceLT, Int.reduceLE, Int.reduceEq]
      repeat' (first | ((first | refine Need.mk (by first | (constructor <;> (first | omega | (simp only [awO] at *; omega) | (simp; omega))) | (first | omega | (simp only [awO] at *; omega) | (simp; omega))) (Byte.at ha ?_) | refine Byte.at ha ?_); simp only [d1, w3, szl, awH, ↓awD, awP, Nat.reduceLeDiff, Nat.reduceEqDiff, Nat.reduceAdd, Int.reduceLT, Int.reduceLE, Int.reduceEq]) | (refine Need.mk (by first | decide | (first | omega | (simp only [awO] at *; omega) | (simp; omega)) | (constructor <;> (first | omega | (simp only [awO] at *; omega) | (simp; omega)))) ?_; simp only [w3, szl, awH, ↓awD, awP, Nat.reduceLeDiff, Nat.reduceEqDiff, Nat.reduceAdd, Int.reduceLT, Int.reduceLE, Int.reduceEq]) | (refine BrF.mk (fun hb => ?_) (fun hb => ?_) <;> (try rw [hb]) <;> simp only [d1, w3, aw21, awH, ↓awD, awP, Nat.reduceLeDiff, Nat.reduceEqDiff, Nat.reduceAdd, Int.reduceLT, Int.reduceLE, Int.reduceEq]))
      all_goals (simp only [*, Bool.not_true, Bool.not_false, Bool.true_and, Bool.false_and] at hv)
      all_goals first
        | exact ⟨(0 + 1, ()), ⟨by simp only; omega, by simp only [hnx]; exact hv⟩, by simp only; omega, weak_of rfl (by simp [look, w00])⟩
        | (subst hv; exact Fin.end hcl rfl (by first | rfl | exact (List.append_nil _).symm | (simp only [List.append_assoc]; rfl)) ⟨rfl, rfl⟩)
    | succ j =>
      obtain ⟨q, hq⟩ : ∃ q, s.data.toList[j]? = some q := ⟨_, List.getElem?_eq_getElem (by omega)⟩
      have hpv : prevB s.data.toList (j + 1) = some q := hq
      rw [hpv] at hv
      simp only at hv
      have d2 : decide ((a.toNat : Int) ≤ (q.toNat : Int)) = !decide (q.toNat < a.toNat) := by rw [Bool.eq_iff_iff]; simp
      have d3 : decide ((0 : Int) < ((j + 1 : Nat) : Int)) = true := by simp
      have w1 : IntKind.i64.wrap (((j + 1 : Nat) : Int) - 1) = ((j : Nat) : Int) := by rw [wrap_i64] <;> omega
      simp only [e1, w3, d1, d2, d3, w1, awH, ↓awD, awP, Nat.reduceLeDiff, Nat.reduceEqDiff, Nat.reduceAdd, Int.reduceLT, Int.reduceLE, Int.reduceEq]
      repeat' (first | ((first | refine Need.mk (by first | (constructor <;> (first | omega | (simp only [awO] at *; omega) | (simp; omega))) | (first | omega | (simp only [awO] at *; omega) | (simp; omega))) (Byte.at ha ?_) | refine Byte.at ha ?_); simp only [d1, d2, d3, w1, w3, szl, awH, ↓awD, awP, Nat.reduceLeDiff, Nat.reduceEqDiff, Nat.reduceAdd, Int.reduceLT, Int.reduceLE, Int.reduceEq]) | ((first | refine Need.mk (by first | (constructor <;> (first | omega | (simp only [awO] at *; omega) | (simp; omega))) | (first | omega | (simp only [awO] at *; omega) | (simp; omega))) (Byte.at hq ?_) | refine Byte.at hq ?_); simp only [d1, d2, d3, w1, w3, szl, awH, ↓awD, awP, Nat.reduceLeDiff, Nat.reduceEqDiff, Nat.reduceAdd, Int.reduceLT, Int.reduceLE, Int.reduceEq]) | (refine Need.mk (by first | decide | (first | omega | (simp only [awO] at *; omega) | (simp; omega)) | (constructor <;> (first | omega | (simp only [awO] at *; omega) | (simp; omega)))) ?_; simp only [w3, szl, awH, ↓awD, awP, Nat.reduceLeDiff, Nat.reduceEqDiff, Nat.reduceAdd, Int.reduceLT, Int.reduceLE, Int.reduceEq]) | (refine BrF.mk (fun hb => ?_) (fun hb => ?_) <;> (try rw [hb]) <;> simp only [d1, d2, d3, w1, w3, aw21, awH, ↓awD, awP, Nat.reduceLeDiff, Nat.reduceEqDiff, Nat.reduceAdd, Int.reduceLT, Int.reduceLE, Int.reduceEq]))
      all_goals (simp only [*, Bool.not_true, Bool.not_false, Bool.true_and, Bool.false_and] at hv)
      all_goals first
        | exact ⟨(j + 1 + 1, ()), ⟨by simp only; omega, by simp only [hnx]; exact hv⟩, by simp only; omega, weak_of rfl (by simp [look, w00])⟩
        | (subst hv; exact Fin.end hcl rfl (by first | rfl | exact (List.append_nil _).symm | (simp only [List.append_assoc]; rfl)) ⟨rfl, rfl⟩)
  · rintro _ hv e1
    rw [drop_len] at hv
    simp only [alphaW] at hv
    subst hv
    have e2 : decide ((s.data.toList.length : Int) < s.size) = false := by rw [hsz]; simp
    simp only [e2, awH, ↓awD, awP, Nat.reduceLeDiff, Nat.reduceEqDiff, Nat.reduceAdd, Int.reduceLT, Int.reduceLE, Int.reduceEq]
    exact Fin.end hcl rfl (by first | rfl | exact (List.append_nil _).symm | (simp only [List.append_assoc]; rfl)) ⟨rfl, rfl⟩

def rightW : Option Rg → List Rg → Bool
  | _, [] => true
  | p, x :: l => !decide (x.hi < x.lo) && ((match p with | none => true | some q => !decide (q.hi = 9223372036854775807) && !decide (x.lo ≤ q.hi + 1)) && rightW (some x) l)
def rightS (l : List Rg) : Bool := rightW none l
def prevR (l : List Rg) (i : Nat) : Option Rg := match i with | 0 => none | i + 1 => l[i]?
theorem right_ev (l : List Rg) (hl : l.length < 2 ^ 60) (h : List AObj) : EvR E0 77 [rgl l] h (boolv (rightS l)) := by
  refine ev_of (fn := Tryz.f77) (hs := []) Tryz.func77 c77 (by simp) fun hcl => ?_
  unfold rightS
  generalize hR : rightW none l = R
  simp only [ac77, awH, ↓awD, awP, Nat.reduceLeDiff, Nat.reduceEqDiff, Nat.reduceAdd, Int.reduceLT, Int.reduceLE, Int.reduceEq]
  refine LoopF.list l hl (γ := List AObj) (fun i J => ⟨[(0, rgl l), (5, rgl l), (6, i64 l.length), (7, i64 i)], h ++ J⟩) (fun i _ => rightW (prevR l i) (l.drop i) = R) [] (by simpa [prevR] using hR) (weak_of (by simp) (by simp [look])) ?_ ?_
  · rintro i a J ha hv hi e1 w3
    rw [drop_get ha] at hv
    simp only [rightW] at hv
    have hga := map_get rgv l i a ha
    have hnx : prevR l (i + 1) = some a := ha
    have w00 : IntKind.i64.wrap 1 = 1 := wrap_i64 1 (by omega) (by omega)
    cases i with
    | zero =>
      simp only [prevR] at hv
      have e0 : decide ((0 : Int) < (l.length : Int)) = true := by simp; omega
      simp only [e0, e1, w3, Int.cast_ofNat_Int, getJ, setJ, awH, ↓awD, awP, Nat.reduceLeDiff, Nat.reduceEqDiff, Nat.reduceAdd, Int.reduceLT, Int.reduceLE, Int.reduceEq]
      repeat' (first | ((try refine Need.mk (by first | (first | omega | (simp only [awO] at *; omega) | (simp; omega)) | (constructor <;> (first | omega | (simp only [awO] at *; omega) | (simp; omega)))) ?_); refine Elem.recs hga (by first | (rw [rgv_eq]; exact ⟨rfl, rfl⟩) | exact ⟨rfl, rfl⟩) ?_; simp only [rgv_eq, w3, e0, getJ, setJ, aw21, awH, ↓awD, awP, Nat.reduceLeDiff, Nat.reduceEqDiff, Nat.reduceAdd, Int.reduceLT, Int.reduceLE, Int.reduceEq]) | (refine Need.mk (by first | decide | (first | omega | (simp only [awO] at *; omega) | (simp; omega)) | (constructor <;> (first | omega | (simp only [awO] at *; omega) | (simp; omega)))) ?_; simp only [w3, szl, awH, ↓awD, awP, Nat.reduceLeDiff, Nat.reduceEqDiff, Nat.reduceAdd, Int.reduceLT, Int.reduceLE, Int.reduceEq]) | (refine BrF.mk (fun hb => ?_) (fun hb => ?_) <;> (try rw [hb]) <;> simp only [w3, getJ, setJ, aw21, awH, ↓awD, awP, Nat.reduceLeDiff, Nat.reduceEqDiff, Nat.reduceAdd, Int.reduceLT, Int.reduceLE, Int.reduceEq]))
      all_goals (simp only [*, Bool.not_true, Bool.not_false, Bool.true_and, Bool.false_and, Bool.and_false, Bool.false_eq_true] at hv)
      all_goals first
        | exact ⟨(0 + 1, J ++ [AObj.cells [i64 a.lo, i64 a.hi]]), ⟨by simp only; omega, by simp only [hnx]; exact hv⟩, by simp only; omega, weak_of (List.append_assoc ..).symm (by simp [look, w00])⟩
        | (subst hv; exact Fin.end hcl rfl (by first | rfl | exact (List.append_nil _).symm | (simp only [List.append_assoc]; rfl)) ⟨rfl, rfl⟩)
    | succ j =>
      obtain ⟨q, hq⟩ : ∃ q, l[j]? = some q := ⟨_, List.getElem?_eq_getElem (by omega)⟩
      have hgq := map_get rgv l j q hq
      have hpv : prevR l (j + 1) = some q := hq
      rw [hpv] at hv
      simp only at hv
      have d3 : decide ((0 : Int) < ((j + 1 : Nat) : Int)) = true := by simp
      have w1 : IntKind.i64.wrap (((j + 1 : Nat) : Int) - 1) = ((j : Nat) : Int) := by rw [wrap_i64] <;> omega
      cases hm : decide (q.hi = 9223372036854775807)
      · have wq : IntKind.i64.wrap (q.hi + 1) = q.hi + 1 := by
          rw [decide_eq_false_iff_not] at hm
          have := q.ok.2
          unfold InR at this
          rw [wrap_i64] <;> omega
        simp only [e1, w3, d3, w1, getJ, setJ, awH, ↓awD, awP, Nat.reduceLeDiff, Nat.reduceEqDiff, Nat.reduceAdd, Int.reduceLT, Int.reduceLE, Int.reduceEq]
        repeat' (first | ((try refine Need.mk (by first | (first | omega | (simp only [awO] at *; omega) | (simp; omega)) | (constructor <;> (first | omega | (simp only [awO] at *; omega) | (simp; omega)))) ?_); refine Elem.recs hga (by first | (rw [rgv_eq]; exact ⟨rfl, rfl⟩) | exact ⟨rfl, rfl⟩) ?_; simp only [rgv_eq, w3, d3, w1, hm, wq, getJ, setJ, aw21, awH, ↓awD, awP, Nat.reduceLeDiff, Nat.reduceEqDiff, Nat.reduceAdd, Int.reduceLT, Int.reduceLE, Int.reduceEq]) | ((try refine Need.mk (by first | (first | omega | (simp only [awO] at *; omega) | (simp; omega)) | (constructor <;> (first | omega | (simp only [awO] at *; omega) | (simp; omega)))) ?_); refine Elem.recs hgq (by first | (rw [rgv_eq]; exact ⟨rfl, rfl⟩) | exact ⟨rfl, rfl⟩) ?_; simp only [rgv_eq, w3, d3, w1, hm, wq, getJ, setJ, aw21, awH, ↓awD, awP, Nat.reduceLeDiff, Nat.reduceEqDiff, Nat.reduceAdd, Int.reduceLT, Int.reduceLE, Int.reduceEq]) | (refine Need.mk (by first | decide | (first | omega | (simp only [awO] at *; omega) | (simp; omega)) | (constructor <;> (first | omega | (simp only [awO] at *; omega) | (simp; omega)))) ?_; simp only [w3, szl, awH, ↓awD, awP, Nat.reduceLeDiff, Nat.reduceEqDiff, Nat.reduceAdd, Int.reduceLT, Int.reduceLE, Int.reduceEq]) | (refine BrF.mk (fun hb => ?_) (fun hb => ?_) <;> (try rw [hb]) <;> simp only [w3, d3, w1, hm, wq, getJ, setJ, aw21, awH, ↓awD, awP, Nat.reduceLeDiff, Nat.reduceEqDiff, Nat.reduceAdd, Int.reduceLT, Int.reduceLE, Int.reduceEq]))
        all_goals (simp only [*, Bool.not_true, Bool.not_false, Bool.true_and, Bool.false_and, Bool.and_false, Bool.false_eq_true] at hv)
        all_goals first
        | exact ⟨(j + 1 + 1, J ++ [AObj.cells [i64 a.lo, i64 a.hi]]), ⟨by simp only; omega, by simp only [hnx]; exact hv⟩, by simp only; omega, weak_of (List.append_assoc ..).symm (by simp [look, w00])⟩
        | (subst hv; exact Fin.end hcl rfl (by first | rfl | exact (List.append_nil _).symm | (simp only [List.append_assoc]; rfl)) ⟨rfl, rfl⟩)
      · simp only [e1, w3, d3, w1, getJ, setJ, awH, ↓awD, awP, Nat.reduceLeDiff, Nat.reduceEqDiff, Nat.reduceAdd, Int.reduceLT, Int.reduceLE, Int.reduceEq]
        repeat' (first | ((try refine Need.mk (by first | (first | omega | (simp only [awO] at *; omega) | (simp; omega)) | (constructor <;> (first | omega | (simp only [awO] at *; omega) | (simp; omega)))) ?_); refine Elem.recs hga (by first | (rw [rgv_eq]; exact ⟨rfl, rfl⟩) | exact ⟨rfl, rfl⟩) ?_; simp only [rgv_eq, w3, d3, w1, hm, getJ, setJ, aw21, awH, ↓awD, awP, Nat.reduceLeDiff, Nat.reduceEqDiff, Nat.reduceAdd, Int.reduceLT, Int.reduceLE, Int.reduceEq]) | ((try refine Need.mk (by first | (first | omega | (simp only [awO] at *; omega) | (simp; omega)) | (constructor <;> (first | omega | (simp only [awO] at *; omega) | (simp; omega)))) ?_); refine Elem.recs hgq (by first | (rw [rgv_eq]; exact ⟨rfl, rfl⟩) | exact ⟨rfl, rfl⟩) ?_; simp only [rgv_eq, w3, d3, w1, hm, getJ, setJ, aw21, awH, ↓awD, awP, Nat.reduceLeDiff, Nat.reduceEqDiff, Nat.reduceAdd, Int.reduceLT, Int.reduceLE, Int.reduceEq]) | (refine Need.mk (by first | decide | (first | omega | (simp only [awO] at *; omega) | (simp; omega)) | (constructor <;> (first | omega | (simp only [awO] at *; omega) | (simp; omega)))) ?_; simp only [w3, szl, awH, ↓awD, awP, Nat.reduceLeDiff, Nat.reduceEqDiff, Nat.reduceAdd, Int.reduceLT, Int.reduceLE, Int.reduceEq]) | (refine BrF.mk (fun hb => ?_) (fun hb => ?_) <;> (try rw [hb]) <;> simp only [w3, d3, w1, hm, getJ, setJ, aw21, awH, ↓awD, awP, Nat.reduceLeDiff, Nat.reduceEqDiff, Nat.reduceAdd, Int.reduceLT, Int.reduceLE, Int.reduceEq]))
        all_goals (simp only [*, Bool.not_true, Bool.not_false, Bool.true_and, Bool.false_and, Bool.and_false, Bool.false_eq_true] at hv)
        all_goals first
        | exact ⟨(j + 1 + 1, J ++ [AObj.cells [i64 a.lo, i64 a.hi]]), ⟨by simp only; omega, by simp only [hnx]; exact hv⟩, by simp only; omega, weak_of (List.append_assoc ..).symm (by simp [look, w00])⟩
        | (subst hv; exact Fin.end hcl rfl (by first | rfl | exact (List.append_nil _).symm | (simp only [List.append_assoc]; rfl)) ⟨rfl, rfl⟩)
  · rintro J hv e1
    rw [drop_len] at hv
    simp only [rightW] at hv
    subst hv
    simp only [e1, awH, ↓awD, awP, Nat.reduceLeDiff, Nat.reduceEqDiff, Nat.reduceAdd, Int.reduceLT, Int.reduceLE, Int.reduceEq]
    exact Fin.end hcl rfl (by first | rfl | exact (List.append_nil _).symm | (simp only [List.append_assoc]; rfl)) ⟨rfl, rfl⟩
end Go.Abs.Fr
