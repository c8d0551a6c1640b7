/- Names of functions and of methods. -/
import Derived.Test.YtgbedffflggenaaDoorS18FrD
import Derived.Test.YtgbedffflggenaaDoorS18FrS
import Derived.Test.YtgbedffflggenaaDoorAbsB1
import Derived.Lib.IndexLaws
set_option linter.all false
namespace Go.Abs.Fr
open Go Go.Abs Go.Proofs
set_option linter.unusedSimpArgs false
set_option maxRecDepth 100000

/-- Has a text a hyphen? -/
def hy (s : ByteArray) : Bool := s.data.toList.contains 45

theorem indexByte_contains : ∀ (l : List UInt8) (c : UInt8), decide (0 ≤ Lib.indexByte l c) = l.contains c
  | [], c => by simp [Lib.indexByte]
  | b :: l, c => by
    have ih := indexByte_contains l c
    have hge := Lib.indexByte_ge l c
    unfold Lib.indexByte
    by_cases hb : b = c
    · subst hb; simp
    · rw [if_neg (by simpa using hb)]
      rw [List.contains_cons, show (c == b) = false by simpa using Ne.symm hb, Bool.false_or, ← ih]
      by_cases h1 : Lib.indexByte l c = -1
      · rw [if_pos (by simpa using h1), h1]
      · rw [if_neg (by simpa using h1)]
        rw [decide_eq_decide]; omega

theorem contains_ev (s : ByteArray) (h : List AObj) : EvR E0 37 [str s, str ⟨#[45]⟩] h (boolv (hy s)) := by
  refine ev_of_kit (fn := Tryd.f37) (c := (Tryd.f37.body).getD .skip) Tryd.func37 (by kernel_rfl) (by kernel_rfl) fun w g vs hg hgl ha => ?_
  have h1 := args_get ha
  obtain ⟨v, r, e1, h2, h3⟩ := Reps.cons.1 h1
  obtain ⟨v', r', e2, h4, h5⟩ := Reps.cons.1 h3
  rw [Reps.nil.1 h5] at e2
  rw [Rep.lit_iff] at h2 h4
  subst h2 h4 e2
  obtain rfl : vs = #[.string s, .string ⟨#[45]⟩] := Array.ext' e1
  refine (Tryd.strings_Contains_one s 45 w).mono ?_
  rintro e w' ⟨rfl, rfl⟩
  refine ⟨_, rfl, Go.RowKit.Below.refl _ _, fun g' => ?_⟩
  rw [indexByte_contains]
  simp [Rep, hy]

/-- Is a text a word that nobody may be called by? -/
def kw (s : ByteArray) : Bool := decide (s = ⟨#[102, 117, 110, 99]⟩) || (decide (s = ⟨#[105, 102]⟩) || (decide (s = ⟨#[101, 108, 115, 101]⟩) || (decide (s = ⟨#[102, 111, 114]⟩) || decide (s = ⟨#[99]⟩))))
def lowr (s : ByteArray) : Bool := whl s.data.toList && !lt97 (pk s.data.toList 0)
def uppr (s : ByteArray) : Bool := whl s.data.toList && lt97 (pk s.data.toList 0)
def isFn (s : ByteArray) : Bool := !kw s && (lowr s && !hy s)
def isMe (s : ByteArray) : Bool := uppr s && !hy s

theorem function_ev (s : ByteArray) (h : List AObj) (hsz : s.size < 2 ^ 60) : EvR E0 20 [str s] h (boolv (isFn s)) := by
  refine ev_of (fn := Tryd.f20) (hs := []) Tryd.func20 c20 (by simp) fun hcl => ?_
  simp only [ac20, ne_eq, not_false_eq_true, Option.map_some, Option.map_none, List.map_cons, List.map_nil, Bool.not_true, Bool.not_false, decide_true, decide_false, List.getElem?_cons_zero, List.getElem?_cons_succ, ↓aw1, ↓aw2, ↓aw17, aw3, aw4, aw5, aw6, aw7, aw8, aw9, aw10, aw11, aw12, aw13, aw14, aw15, aw16, aw19, Nat.reduceLeDiff, if_true, if_false, Nat.reduceEqDiff, Nat.reduceAdd, beq_self_eq_true, beq_true, beq_false, Bool.false_eq_true]
  have hlo := lower_ev s h hsz
  cases k1 : decide (s = ⟨#[102, 117, 110, 99]⟩)
  · cases k2 : decide (s = ⟨#[105, 102]⟩)
    · cases k3 : decide (s = ⟨#[101, 108, 115, 101]⟩)
      · cases k4 : decide (s = ⟨#[102, 111, 114]⟩)
        · cases k5 : decide (s = ⟨#[99]⟩)
          · simp only [k1, k2, k3, k4, k5, ne_eq, not_false_eq_true, Option.map_some, Option.map_none, List.map_cons, List.map_nil, Bool.not_true, Bool.not_false, decide_true, decide_false, List.getElem?_cons_zero, List.getElem?_cons_succ, ↓aw1, ↓aw2, ↓aw17, aw3, aw4, aw5, aw6, aw7, aw8, aw9, aw10, aw11, aw12, aw13, aw14, aw15, aw16, aw19, Nat.reduceLeDiff, if_true, if_false, Nat.reduceEqDiff, Nat.reduceAdd, beq_self_eq_true, beq_true, beq_false, Bool.false_eq_true]
            refine EvF.ret hlo ?_
            cases hL : lowr s
            · have hL' : (whl s.data.toList && !lt97 (pk s.data.toList 0)) = false := hL
              simp only [hL', ne_eq, not_false_eq_true, Option.map_some, Option.map_none, List.map_cons, List.map_nil, Bool.not_true, Bool.not_false, decide_true, decide_false, List.getElem?_cons_zero, List.getElem?_cons_succ, ↓aw1, ↓aw2, ↓aw17, aw3, aw4, aw5, aw6, aw7, aw8, aw9, aw10, aw11, aw12, aw13, aw14, aw15, aw16, aw19, Nat.reduceLeDiff, if_true, if_false, Nat.reduceEqDiff, Nat.reduceAdd, beq_self_eq_true, beq_true, beq_false, Bool.false_eq_true]
              exact Fin.same0 hcl rfl ⟨by simp [isFn, kw, k1, k2, k3, k4, k5, hL], rfl⟩
            · have hL' : (whl s.data.toList && !lt97 (pk s.data.toList 0)) = true := hL
              simp only [hL', ne_eq, not_false_eq_true, Option.map_some, Option.map_none, List.map_cons, List.map_nil, Bool.not_true, Bool.not_false, decide_true, decide_false, List.getElem?_cons_zero, List.getElem?_cons_succ, ↓aw1, ↓aw2, ↓aw17, aw3, aw4, aw5, aw6, aw7, aw8, aw9, aw10, aw11, aw12, aw13, aw14, aw15, aw16, aw19, Nat.reduceLeDiff, if_true, if_false, Nat.reduceEqDiff, Nat.reduceAdd, beq_self_eq_true, beq_true, beq_false, Bool.false_eq_true]
              refine EvF.ret (contains_ev s h) ?_
              simp only [ne_eq, not_false_eq_true, Option.map_some, Option.map_none, List.map_cons, List.map_nil, Bool.not_true, Bool.not_false, decide_true, decide_false, List.getElem?_cons_zero, List.getElem?_cons_succ, ↓aw1, ↓aw2, ↓aw17, aw3, aw4, aw5, aw6, aw7, aw8, aw9, aw10, aw11, aw12, aw13, aw14, aw15, aw16, aw19, Nat.reduceLeDiff, if_true, if_false, Nat.reduceEqDiff, Nat.reduceAdd, beq_self_eq_true, beq_true, beq_false, Bool.false_eq_true]
              exact Fin.same0 hcl rfl ⟨by simp [isFn, kw, k1, k2, k3, k4, k5, hL], rfl⟩
          · simp only [k1, k2, k3, k4, k5, ne_eq, not_false_eq_true, Option.map_some, Option.map_none, List.map_cons, List.map_nil, Bool.not_true, Bool.not_false, decide_true, decide_false, List.getElem?_cons_zero, List.getElem?_cons_succ, ↓aw1, ↓aw2, ↓aw17, aw3, aw4, aw5, aw6, aw7, aw8, aw9, aw10, aw11, aw12, aw13, aw14, aw15, aw16, aw19, Nat.reduceLeDiff, if_true, if_false, Nat.reduceEqDiff, Nat.reduceAdd, beq_self_eq_true, beq_true, beq_false, Bool.false_eq_true]
            exact Fin.same0 hcl rfl ⟨by simp [isFn, kw, k1, k2, k3, k4, k5], rfl⟩
        · simp only [k1, k2, k3, k4, ne_eq, not_false_eq_true, Option.map_some, Option.map_none, List.map_cons, List.map_nil, Bool.not_true, Bool.not_false, decide_true, decide_false, List.getElem?_cons_zero, List.getElem?_cons_succ, ↓aw1, ↓aw2, ↓aw17, aw3, aw4, aw5, aw6, aw7, aw8, aw9, aw10, aw11, aw12, aw13, aw14, aw15, aw16, aw19, Nat.reduceLeDiff, if_true, if_false, Nat.reduceEqDiff, Nat.reduceAdd, beq_self_eq_true, beq_true, beq_false, Bool.false_eq_true]
          exact Fin.same0 hcl rfl ⟨by simp [isFn, kw, k1, k2, k3, k4], rfl⟩
      · simp only [k1, k2, k3, ne_eq, not_false_eq_true, Option.map_some, Option.map_none, List.map_cons, List.map_nil, Bool.not_true, Bool.not_false, decide_true, decide_false, List.getElem?_cons_zero, List.getElem?_cons_succ, ↓aw1, ↓aw2, ↓aw17, aw3, aw4, aw5, aw6, aw7, aw8, aw9, aw10, aw11, aw12, aw13, aw14, aw15, aw16, aw19, Nat.reduceLeDiff, if_true, if_false, Nat.reduceEqDiff, Nat.reduceAdd, beq_self_eq_true, beq_true, beq_false, Bool.false_eq_true]
        exact Fin.same0 hcl rfl ⟨by simp [isFn, kw, k1, k2, k3], rfl⟩
    · simp only [k1, k2, ne_eq, not_false_eq_true, Option.map_some, Option.map_none, List.map_cons, List.map_nil, Bool.not_true, Bool.not_false, decide_true, decide_false, List.getElem?_cons_zero, List.getElem?_cons_succ, ↓aw1, ↓aw2, ↓aw17, aw3, aw4, aw5, aw6, aw7, aw8, aw9, aw10, aw11, aw12, aw13, aw14, aw15, aw16, aw19, Nat.reduceLeDiff, if_true, if_false, Nat.reduceEqDiff, Nat.reduceAdd, beq_self_eq_true, beq_true, beq_false, Bool.false_eq_true]
      exact Fin.same0 hcl rfl ⟨by simp [isFn, kw, k1, k2], rfl⟩
  · simp only [k1, ne_eq, not_false_eq_true, Option.map_some, Option.map_none, List.map_cons, List.map_nil, Bool.not_true, Bool.not_false, decide_true, decide_false, List.getElem?_cons_zero, List.getElem?_cons_succ, ↓aw1, ↓aw2, ↓aw17, aw3, aw4, aw5, aw6, aw7, aw8, aw9, aw10, aw11, aw12, aw13, aw14, aw15, aw16, aw19, Nat.reduceLeDiff, if_true, if_false, Nat.reduceEqDiff, Nat.reduceAdd, beq_self_eq_true, beq_true, beq_false, Bool.false_eq_true]
    exact Fin.same0 hcl rfl ⟨by simp [isFn, kw, k1], rfl⟩

theorem method_ev (s : ByteArray) (h : List AObj) (hsz : s.size < 2 ^ 60) : EvR E0 54 [str s] h (boolv (isMe s)) := by
  refine ev_of (fn := Tryd.f54) (hs := []) Tryd.func54 c54 (by simp) fun hcl => ?_
  simp only [ac54, ne_eq, not_false_eq_true, Option.map_some, Option.map_none, List.map_cons, List.map_nil, Bool.not_true, Bool.not_false, decide_true, decide_false, List.getElem?_cons_zero, List.getElem?_cons_succ, ↓aw1, ↓aw2, ↓aw17, aw3, aw4, aw5, aw6, aw7, aw8, aw9, aw10, aw11, aw12, aw13, aw14, aw15, aw16, aw19, Nat.reduceLeDiff, if_true, if_false, Nat.reduceEqDiff, Nat.reduceAdd, beq_self_eq_true, beq_true, beq_false, Bool.false_eq_true]
  refine EvF.ret (upper_ev s h hsz) ?_
  cases hL : uppr s
  · have hL' : (whl s.data.toList && lt97 (pk s.data.toList 0)) = false := hL
    simp only [hL', ne_eq, not_false_eq_true, Option.map_some, Option.map_none, List.map_cons, List.map_nil, Bool.not_true, Bool.not_false, decide_true, decide_false, List.getElem?_cons_zero, List.getElem?_cons_succ, ↓aw1, ↓aw2, ↓aw17, aw3, aw4, aw5, aw6, aw7, aw8, aw9, aw10, aw11, aw12, aw13, aw14, aw15, aw16, aw19, Nat.reduceLeDiff, if_true, if_false, Nat.reduceEqDiff, Nat.reduceAdd, beq_self_eq_true, beq_true, beq_false, Bool.false_eq_true]
    exact Fin.same0 hcl rfl ⟨by simp [isMe, hL], rfl⟩
  · have hL' : (whl s.data.toList && lt97 (pk s.data.toList 0)) = true := hL
    simp only [hL', ne_eq, not_false_eq_true, Option.map_some, Option.map_none, List.map_cons, List.map_nil, Bool.not_true, Bool.not_false, decide_true, decide_false, List.getElem?_cons_zero, List.getElem?_cons_succ, ↓aw1, ↓aw2, ↓aw17, aw3, aw4, aw5, aw6, aw7, aw8, aw9, aw10, aw11, aw12, aw13, aw14, aw15, aw16, aw19, Nat.reduceLeDiff, if_true, if_false, Nat.reduceEqDiff, Nat.reduceAdd, beq_self_eq_true, beq_true, beq_false, Bool.false_eq_true]
    refine EvF.ret (contains_ev s h) ?_
    simp only [ne_eq, not_false_eq_true, Option.map_some, Option.map_none, List.map_cons, List.map_nil, Bool.not_true, Bool.not_false, decide_true, decide_false, List.getElem?_cons_zero, List.getElem?_cons_succ, ↓aw1, ↓aw2, ↓aw17, aw3, aw4, aw5, aw6, aw7, aw8, aw9, aw10, aw11, aw12, aw13, aw14, aw15, aw16, aw19, Nat.reduceLeDiff, if_true, if_false, Nat.reduceEqDiff, Nat.reduceAdd, beq_self_eq_true, beq_true, beq_false, Bool.false_eq_true]
    exact Fin.same0 hcl rfl ⟨by simp [isMe, hL], rfl⟩

theorem isC45 (c : UInt8) : isC 45 c = (45 == c) := by
  have := all_u8 (p := fun c => isC 45 c == (45 == c)) (by decide +kernel) c
  simpa using this

theorem plain_ev (s : ByteArray) (h : List AObj) (hsz : s.size < 2 ^ 60) : EvR E0 42 [str s] h (boolv (!hy s)) := by
  refine ev_of (fn := Tryd.f42) (hs := []) Tryd.func42 c42 (by simp) fun hcl => ?_
  simp only [ac42, ne_eq, not_false_eq_true, Option.map_some, Option.map_none, List.map_cons, List.map_nil, Bool.not_true, Bool.not_false, decide_true, decide_false, List.getElem?_cons_zero, List.getElem?_cons_succ, ↓aw1, ↓aw2, ↓aw17, aw3, aw4, aw5, aw6, aw7, aw8, aw9, aw10, aw11, aw12, aw13, aw14, aw15, aw16, aw19, Nat.reduceLeDiff, if_true, if_false, Nat.reduceEqDiff, Nat.reduceAdd, beq_self_eq_true, beq_true, beq_false, Bool.false_eq_true]
  have hlen : s.data.toList.length = s.size := by simp
  refine LoopF.by (α := Nat) (fun i => ⟨[(0, str s), (3, i64 i)], h⟩) (fun i => s.size - i)
    (fun i => i ≤ s.size ∧ hy s = (s.data.toList.drop i).contains 45) 0 ⟨by omega, rfl⟩ (weak_of rfl (by simp [look])) ?_
  rintro i ⟨h1, h2⟩
  by_cases hi : i < s.size
  · have e1 : decide ((i : Int) < (s.size : Int)) = true := by simp; omega
    have w3 : IntKind.i64.wrap ((i : Int) + 1) = ((i + 1 : Nat) : Int) := by rw [wrap_i64] <;> omega
    simp only [e1, ne_eq, not_false_eq_true, Option.map_some, Option.map_none, List.map_cons, List.map_nil, Bool.not_true, Bool.not_false, decide_true, decide_false, List.getElem?_cons_zero, List.getElem?_cons_succ, ↓aw1, ↓aw2, ↓aw17, aw3, aw4, aw5, aw6, aw7, aw8, aw9, aw10, aw11, aw12, aw13, aw14, aw15, aw16, aw19, Nat.reduceLeDiff, if_true, if_false, Nat.reduceEqDiff, Nat.reduceAdd, beq_self_eq_true, beq_true, beq_false, Bool.false_eq_true]
    refine Need.mk ⟨by omega, by simp; omega⟩ fun c hc => ?_
    have hc' : s.data.toList[i]? = some c := by rw [← bytes_get]; exact hc
    rw [drop_get hc', List.contains_cons] at h2
    cases h45 : isC 45 c
    · have h45' : decide ((c.toNat : Int) = 45) = false := h45
      simp only [h45', w3, ne_eq, not_false_eq_true, Option.map_some, Option.map_none, List.map_cons, List.map_nil, Bool.not_true, Bool.not_false, decide_true, decide_false, List.getElem?_cons_zero, List.getElem?_cons_succ, ↓aw1, ↓aw2, ↓aw17, aw3, aw4, aw5, aw6, aw7, aw8, aw9, aw10, aw11, aw12, aw13, aw14, aw15, aw16, aw19, Nat.reduceLeDiff, if_true, if_false, Nat.reduceEqDiff, Nat.reduceAdd, beq_self_eq_true, beq_true, beq_false, Bool.false_eq_true]
      have hne : (45 == c) = false := by rw [← isC45]; exact h45
      rw [hne, Bool.false_or] at h2
      exact ⟨i + 1, ⟨by omega, h2⟩, by omega, weak_of rfl (by simp [look])⟩
    · have h45' : decide ((c.toNat : Int) = 45) = true := h45
      simp only [h45', ne_eq, not_false_eq_true, Option.map_some, Option.map_none, List.map_cons, List.map_nil, Bool.not_true, Bool.not_false, decide_true, decide_false, List.getElem?_cons_zero, List.getElem?_cons_succ, ↓aw1, ↓aw2, ↓aw17, aw3, aw4, aw5, aw6, aw7, aw8, aw9, aw10, aw11, aw12, aw13, aw14, aw15, aw16, aw19, Nat.reduceLeDiff, if_true, if_false, Nat.reduceEqDiff, Nat.reduceAdd, beq_self_eq_true, beq_true, beq_false, Bool.false_eq_true]
      have heq : (45 == c) = true := by rw [← isC45]; exact h45
      rw [heq] at h2
      exact Fin.same0 hcl rfl ⟨by rw [h2]; rfl, rfl⟩
  · have e1 : decide ((i : Int) < (s.size : Int)) = false := by simp; omega
    rw [List.drop_eq_nil_of_le (by omega)] at h2
    simp only [e1, ne_eq, not_false_eq_true, Option.map_some, Option.map_none, List.map_cons, List.map_nil, Bool.not_true, Bool.not_false, decide_true, decide_false, List.getElem?_cons_zero, List.getElem?_cons_succ, ↓aw1, ↓aw2, ↓aw17, aw3, aw4, aw5, aw6, aw7, aw8, aw9, aw10, aw11, aw12, aw13, aw14, aw15, aw16, aw19, Nat.reduceLeDiff, if_true, if_false, Nat.reduceEqDiff, Nat.reduceAdd, beq_self_eq_true, beq_true, beq_false, Bool.false_eq_true]
    exact Fin.same0 hcl rfl ⟨by rw [h2]; rfl, rfl⟩

theorem rmethod_ev (s : ByteArray) (h : List AObj) (hsz : s.size < 2 ^ 60) : EvR E0 43 [str s] h (boolv (isMe s)) := by
  refine ev_of (fn := Tryd.f43) (hs := []) Tryd.func43 c43 (by simp) fun hcl => ?_
  simp only [ac43, ne_eq, not_false_eq_true, Option.map_some, Option.map_none, List.map_cons, List.map_nil, Bool.not_true, Bool.not_false, decide_true, decide_false, List.getElem?_cons_zero, List.getElem?_cons_succ, ↓aw1, ↓aw2, ↓aw17, aw3, aw4, aw5, aw6, aw7, aw8, aw9, aw10, aw11, aw12, aw13, aw14, aw15, aw16, aw19, Nat.reduceLeDiff, if_true, if_false, Nat.reduceEqDiff, Nat.reduceAdd, beq_self_eq_true, beq_true, beq_false, Bool.false_eq_true]
  refine EvF.ret (rupper_ev s h hsz) ?_
  cases hL : uppr s
  · have hL' : (whl s.data.toList && lt97 (pk s.data.toList 0)) = false := hL
    simp only [hL', ne_eq, not_false_eq_true, Option.map_some, Option.map_none, List.map_cons, List.map_nil, Bool.not_true, Bool.not_false, decide_true, decide_false, List.getElem?_cons_zero, List.getElem?_cons_succ, ↓aw1, ↓aw2, ↓aw17, aw3, aw4, aw5, aw6, aw7, aw8, aw9, aw10, aw11, aw12, aw13, aw14, aw15, aw16, aw19, Nat.reduceLeDiff, if_true, if_false, Nat.reduceEqDiff, Nat.reduceAdd, beq_self_eq_true, beq_true, beq_false, Bool.false_eq_true]
    exact Fin.same0 hcl rfl ⟨by simp [isMe, hL], rfl⟩
  · have hL' : (whl s.data.toList && lt97 (pk s.data.toList 0)) = true := hL
    simp only [hL', ne_eq, not_false_eq_true, Option.map_some, Option.map_none, List.map_cons, List.map_nil, Bool.not_true, Bool.not_false, decide_true, decide_false, List.getElem?_cons_zero, List.getElem?_cons_succ, ↓aw1, ↓aw2, ↓aw17, aw3, aw4, aw5, aw6, aw7, aw8, aw9, aw10, aw11, aw12, aw13, aw14, aw15, aw16, aw19, Nat.reduceLeDiff, if_true, if_false, Nat.reduceEqDiff, Nat.reduceAdd, beq_self_eq_true, beq_true, beq_false, Bool.false_eq_true]
    refine EvF.ret (plain_ev s h hsz) ?_
    simp only [ne_eq, not_false_eq_true, Option.map_some, Option.map_none, List.map_cons, List.map_nil, Bool.not_true, Bool.not_false, decide_true, decide_false, List.getElem?_cons_zero, List.getElem?_cons_succ, ↓aw1, ↓aw2, ↓aw17, aw3, aw4, aw5, aw6, aw7, aw8, aw9, aw10, aw11, aw12, aw13, aw14, aw15, aw16, aw19, Nat.reduceLeDiff, if_true, if_false, Nat.reduceEqDiff, Nat.reduceAdd, beq_self_eq_true, beq_true, beq_false, Bool.false_eq_true]
    exact Fin.same0 hcl rfl ⟨by simp [isMe, hL], rfl⟩

set_option maxHeartbeats 1000000 in
theorem rfunction_ev (s : ByteArray) (h : List AObj) (hsz : s.size < 2 ^ 60) : EvR E0 22 [str s] h (boolv (isFn s)) := by
  refine ev_of (fn := Tryd.f22) (hs := []) Tryd.func22 c22 (by simp) fun hcl => ?_
  simp only [ac22, ne_eq, not_false_eq_true, Option.map_some, Option.map_none, List.map_cons, List.map_nil, Bool.not_true, Bool.not_false, decide_true, decide_false, List.getElem?_cons_zero, List.getElem?_cons_succ, ↓aw1, ↓aw2, ↓aw17, aw3, aw4, aw5, aw6, aw7, aw8, aw9, aw10, aw11, aw12, aw13, aw14, aw15, aw16, aw19, Nat.reduceLeDiff, if_true, if_false, Nat.reduceEqDiff, Nat.reduceAdd, beq_self_eq_true, beq_true, beq_false, Bool.false_eq_true]
  refine EvF.ret (rlower_ev s h hsz) ?_
  cases hL : lowr s
  · have hL' : (whl s.data.toList && !lt97 (pk s.data.toList 0)) = false := hL
    simp only [hL', ne_eq, not_false_eq_true, Option.map_some, Option.map_none, List.map_cons, List.map_nil, Bool.not_true, Bool.not_false, decide_true, decide_false, List.getElem?_cons_zero, List.getElem?_cons_succ, ↓aw1, ↓aw2, ↓aw17, aw3, aw4, aw5, aw6, aw7, aw8, aw9, aw10, aw11, aw12, aw13, aw14, aw15, aw16, aw19, Nat.reduceLeDiff, if_true, if_false, Nat.reduceEqDiff, Nat.reduceAdd, beq_self_eq_true, beq_true, beq_false, Bool.false_eq_true]
    exact Fin.same0 hcl rfl ⟨by simp [isFn, hL], rfl⟩
  · have hL' : (whl s.data.toList && !lt97 (pk s.data.toList 0)) = true := hL
    simp only [hL', ne_eq, not_false_eq_true, Option.map_some, Option.map_none, List.map_cons, List.map_nil, Bool.not_true, Bool.not_false, decide_true, decide_false, List.getElem?_cons_zero, List.getElem?_cons_succ, ↓aw1, ↓aw2, ↓aw17, aw3, aw4, aw5, aw6, aw7, aw8, aw9, aw10, aw11, aw12, aw13, aw14, aw15, aw16, aw19, Nat.reduceLeDiff, if_true, if_false, Nat.reduceEqDiff, Nat.reduceAdd, beq_self_eq_true, beq_true, beq_false, Bool.false_eq_true]
    refine EvF.ret (plain_ev s h hsz) ?_
    cases hH : hy s <;> cases k1 : decide (s = ⟨#[102, 117, 110, 99]⟩) <;> cases k2 : decide (s = ⟨#[105, 102]⟩) <;> cases k3 : decide (s = ⟨#[101, 108, 115, 101]⟩) <;> cases k4 : decide (s = ⟨#[102, 111, 114]⟩) <;>
    (simp only [hH, k1, k2, k3, k4, ne_eq, not_false_eq_true, Option.map_some, Option.map_none, List.map_cons, List.map_nil, Bool.not_true, Bool.not_false, decide_true, decide_false, List.getElem?_cons_zero, List.getElem?_cons_succ, ↓aw1, ↓aw2, ↓aw17, aw3, aw4, aw5, aw6, aw7, aw8, aw9, aw10, aw11, aw12, aw13, aw14, aw15, aw16, aw19, Nat.reduceLeDiff, if_true, if_false, Nat.reduceEqDiff, Nat.reduceAdd, beq_self_eq_true, beq_true, beq_false, Bool.false_eq_true]
     exact Fin.same0 hcl rfl ⟨by simp [isFn, kw, hL, hH, k1, k2, k3, k4], rfl⟩)
end Go.Abs.Fr

namespace Go.Abs.Fr
open Go Go.Abs Go.Proofs
set_option linter.unusedSimpArgs false
set_option maxRecDepth 100000

/-- The place of the first of which something holds; -1: of none. -/
def idx {α : Type} (p : α → Bool) : List α → Nat → Int
  | [], _ => -1
  | x :: l, i => if p x then i else idx p l (i + 1)
theorem idx_any {α : Type} (p : α → Bool) : ∀ (l : List α) (i : Nat), decide (0 ≤ idx p l i) = l.any p
  | [], i => by simp [idx]
  | x :: l, i => by
    unfold idx
    cases hx : p x
    · simp only [Bool.false_eq_true, if_false, List.any_cons, hx, Bool.false_or]; exact idx_any p l (i + 1)
    · simp [hx]

theorem arg_idx (l : List Arg) (f : FuncId) (caps : List AV) (p : Arg → Bool) (h : List AObj) (hl : l.length < 2 ^ 60) (hp : ∀ s, s ∈ l → EvR E0 f (argv s :: caps.map AV.strip) h (boolv (p s))) :
    EvR E0 73 [argsv l, .fn (.func f) [] caps] h (i64 (idx p l 0)) := by
  refine ev_of (fn := Tryd.f73) (hs := []) Tryd.func73 c73 (by simp) fun hcl => ?_
  generalize hR : idx p l 0 = R
  simp only [ac73, List.length_map, ne_eq, not_false_eq_true, Option.map_some, Option.map_none, List.map_cons, List.map_nil, Bool.not_true, Bool.not_false, decide_true, decide_false, List.getElem?_cons_zero, List.getElem?_cons_succ, ↓aw1, ↓aw2, ↓aw17, aw3, aw4, aw5, aw6, aw7, aw8, aw9, aw10, aw11, aw12, aw13, aw14, aw15, aw16, aw19, Nat.reduceLeDiff, if_true, if_false, Nat.reduceEqDiff, Nat.reduceAdd, beq_self_eq_true, beq_true, beq_false, Bool.false_eq_true]
  refine LoopF.by (α := Nat) (fun i => ⟨[(0, argsv l), (1, .fn (.func f) [] caps), (6, argsv l), (7, i64 l.length), (8, i64 i)], h⟩) (fun i => l.length - i)
    (fun i => i ≤ l.length ∧ idx p (l.drop i) i = R) 0 ⟨by omega, by simpa using hR⟩ (weak_of rfl (by simp [look])) ?_
  rintro i ⟨h1, h2⟩
  by_cases hi : i < l.length
  · obtain ⟨s, hs⟩ : ∃ s, l[i]? = some s := ⟨_, List.getElem?_eq_getElem hi⟩
    have e1 : decide ((i : Int) < (l.length : Int)) = true := by simp; omega
    have w3 : IntKind.i64.wrap ((i : Int) + 1) = ((i + 1 : Nat) : Int) := by rw [wrap_i64] <;> omega
    have hp' := hp s (List.mem_of_getElem? hs)
    rw [drop_get hs] at h2
    unfold idx at h2
    simp only [argv] at hp'
    simp only [e1, ne_eq, not_false_eq_true, Option.map_some, Option.map_none, List.map_cons, List.map_nil, Bool.not_true, Bool.not_false, decide_true, decide_false, List.getElem?_cons_zero, List.getElem?_cons_succ, ↓aw1, ↓aw2, ↓aw17, aw3, aw4, aw5, aw6, aw7, aw8, aw9, aw10, aw11, aw12, aw13, aw14, aw15, aw16, aw19, Nat.reduceLeDiff, if_true, if_false, Nat.reduceEqDiff, Nat.reduceAdd, beq_self_eq_true, beq_true, beq_false, Bool.false_eq_true]
    refine Need.mk ⟨by omega, by simp; omega⟩ (Elem.recs (map_get argv l i s hs) (by simp only [argv]; exact ⟨rfl, rfl⟩) ?_)
    simp only [argv, List.take_succ_cons, List.take_zero, List.drop_zero, List.drop_succ_cons, ne_eq, not_false_eq_true, Option.map_some, Option.map_none, List.map_cons, List.map_nil, Bool.not_true, Bool.not_false, decide_true, decide_false, List.getElem?_cons_zero, List.getElem?_cons_succ, ↓aw1, ↓aw2, ↓aw17, aw3, aw4, aw5, aw6, aw7, aw8, aw9, aw10, aw11, aw12, aw13, aw14, aw15, aw16, aw19, Nat.reduceLeDiff, if_true, if_false, Nat.reduceEqDiff, Nat.reduceAdd, beq_self_eq_true, beq_true, beq_false, Bool.false_eq_true]
    refine EvF.ret hp' ?_
    cases hx : p s
    · rw [hx] at h2
      simp only [Bool.false_eq_true, if_false] at h2
      simp only [w3, ne_eq, not_false_eq_true, Option.map_some, Option.map_none, List.map_cons, List.map_nil, Bool.not_true, Bool.not_false, decide_true, decide_false, List.getElem?_cons_zero, List.getElem?_cons_succ, ↓aw1, ↓aw2, ↓aw17, aw3, aw4, aw5, aw6, aw7, aw8, aw9, aw10, aw11, aw12, aw13, aw14, aw15, aw16, aw19, Nat.reduceLeDiff, if_true, if_false, Nat.reduceEqDiff, Nat.reduceAdd, beq_self_eq_true, beq_true, beq_false, Bool.false_eq_true]
      exact ⟨i + 1, ⟨by omega, h2⟩, by omega, weak_of rfl (by simp [look])⟩
    · rw [hx] at h2
      simp only [if_true] at h2
      subst h2
      simp only [ne_eq, not_false_eq_true, Option.map_some, Option.map_none, List.map_cons, List.map_nil, Bool.not_true, Bool.not_false, decide_true, decide_false, List.getElem?_cons_zero, List.getElem?_cons_succ, ↓aw1, ↓aw2, ↓aw17, aw3, aw4, aw5, aw6, aw7, aw8, aw9, aw10, aw11, aw12, aw13, aw14, aw15, aw16, aw19, Nat.reduceLeDiff, if_true, if_false, Nat.reduceEqDiff, Nat.reduceAdd, beq_self_eq_true, beq_true, beq_false, Bool.false_eq_true]
      exact Fin.same0 hcl rfl ⟨rfl, rfl⟩
  · have e1 : decide ((i : Int) < (l.length : Int)) = false := by simp; omega
    rw [List.drop_eq_nil_of_le (by omega)] at h2
    unfold idx at h2
    subst h2
    simp only [e1, ne_eq, not_false_eq_true, Option.map_some, Option.map_none, List.map_cons, List.map_nil, Bool.not_true, Bool.not_false, decide_true, decide_false, List.getElem?_cons_zero, List.getElem?_cons_succ, ↓aw1, ↓aw2, ↓aw17, aw3, aw4, aw5, aw6, aw7, aw8, aw9, aw10, aw11, aw12, aw13, aw14, aw15, aw16, aw19, Nat.reduceLeDiff, if_true, if_false, Nat.reduceEqDiff, Nat.reduceAdd, beq_self_eq_true, beq_true, beq_false, Bool.false_eq_true]
    exact Fin.same0 hcl rfl ⟨rfl, rfl⟩

theorem arg_any (l : List Arg) (f : FuncId) (caps : List AV) (p : Arg → Bool) (h : List AObj) (hl : l.length < 2 ^ 60) (hp : ∀ s, s ∈ l → EvR E0 f (argv s :: caps.map AV.strip) h (boolv (p s))) :
    EvR E0 55 [argsv l, .fn (.func f) [] caps] h (boolv (l.any p)) := by
  refine ev_of (fn := Tryd.f55) (hs := []) Tryd.func55 c55 (by simp) fun hcl => ?_
  simp only [ac55, ne_eq, not_false_eq_true, Option.map_some, Option.map_none, List.map_cons, List.map_nil, Bool.not_true, Bool.not_false, decide_true, decide_false, List.getElem?_cons_zero, List.getElem?_cons_succ, ↓aw1, ↓aw2, ↓aw17, aw3, aw4, aw5, aw6, aw7, aw8, aw9, aw10, aw11, aw12, aw13, aw14, aw15, aw16, aw19, Nat.reduceLeDiff, if_true, if_false, Nat.reduceEqDiff, Nat.reduceAdd, beq_self_eq_true, beq_true, beq_false, Bool.false_eq_true]
  refine EvF.ret (arg_idx l f caps p h hl hp) ?_
  simp only [idx_any, ne_eq, not_false_eq_true, Option.map_some, Option.map_none, List.map_cons, List.map_nil, Bool.not_true, Bool.not_false, decide_true, decide_false, List.getElem?_cons_zero, List.getElem?_cons_succ, ↓aw1, ↓aw2, ↓aw17, aw3, aw4, aw5, aw6, aw7, aw8, aw9, aw10, aw11, aw12, aw13, aw14, aw15, aw16, aw19, Nat.reduceLeDiff, if_true, if_false, Nat.reduceEqDiff, Nat.reduceAdd, beq_self_eq_true, beq_true, beq_false, Bool.false_eq_true]
  exact Fin.same0 hcl rfl ⟨rfl, rfl⟩

theorem stmt_idx (l : List Stmt) (f : FuncId) (caps : List AV) (p : Stmt → Bool) (h : List AObj) (hl : l.length < 2 ^ 60) (hp : ∀ s, s ∈ l → EvR E0 f (stmtv s :: caps.map AV.strip) h (boolv (p s))) :
    EvR E0 53 [bodyv l, .fn (.func f) [] caps] h (i64 (idx p l 0)) := by
  refine ev_of (fn := Tryd.f53) (hs := []) Tryd.func53 c53 (by simp) fun hcl => ?_
  generalize hR : idx p l 0 = R
  simp only [ac53, List.length_map, ne_eq, not_false_eq_true, Option.map_some, Option.map_none, List.map_cons, List.map_nil, Bool.not_true, Bool.not_false, decide_true, decide_false, List.getElem?_cons_zero, List.getElem?_cons_succ, ↓aw1, ↓aw2, ↓aw17, aw3, aw4, aw5, aw6, aw7, aw8, aw9, aw10, aw11, aw12, aw13, aw14, aw15, aw16, aw19, Nat.reduceLeDiff, if_true, if_false, Nat.reduceEqDiff, Nat.reduceAdd, beq_self_eq_true, beq_true, beq_false, Bool.false_eq_true]
  refine LoopF.by (α := Nat) (fun i => ⟨[(0, bodyv l), (1, .fn (.func f) [] caps), (6, bodyv l), (7, i64 l.length), (8, i64 i)], h⟩) (fun i => l.length - i)
    (fun i => i ≤ l.length ∧ idx p (l.drop i) i = R) 0 ⟨by omega, by simpa using hR⟩ (weak_of rfl (by simp [look])) ?_
  rintro i ⟨h1, h2⟩
  by_cases hi : i < l.length
  · obtain ⟨s, hs⟩ : ∃ s, l[i]? = some s := ⟨_, List.getElem?_eq_getElem hi⟩
    have e1 : decide ((i : Int) < (l.length : Int)) = true := by simp; omega
    have w3 : IntKind.i64.wrap ((i : Int) + 1) = ((i + 1 : Nat) : Int) := by rw [wrap_i64] <;> omega
    have hp' := hp s (List.mem_of_getElem? hs)
    rw [drop_get hs] at h2
    unfold idx at h2
    simp only [stmtv_eq] at hp'
    simp only [e1, ne_eq, not_false_eq_true, Option.map_some, Option.map_none, List.map_cons, List.map_nil, Bool.not_true, Bool.not_false, decide_true, decide_false, List.getElem?_cons_zero, List.getElem?_cons_succ, ↓aw1, ↓aw2, ↓aw17, aw3, aw4, aw5, aw6, aw7, aw8, aw9, aw10, aw11, aw12, aw13, aw14, aw15, aw16, aw19, Nat.reduceLeDiff, if_true, if_false, Nat.reduceEqDiff, Nat.reduceAdd, beq_self_eq_true, beq_true, beq_false, Bool.false_eq_true]
    refine Need.mk ⟨by omega, by simp; omega⟩ (Elem.recs (map_get stmtv l i s hs) (by simp only [stmtv_eq]; exact ⟨rfl, rfl⟩) ?_)
    simp only [stmtv_eq, List.take_succ_cons, List.take_zero, List.drop_zero, List.drop_succ_cons, ne_eq, not_false_eq_true, Option.map_some, Option.map_none, List.map_cons, List.map_nil, Bool.not_true, Bool.not_false, decide_true, decide_false, List.getElem?_cons_zero, List.getElem?_cons_succ, ↓aw1, ↓aw2, ↓aw17, aw3, aw4, aw5, aw6, aw7, aw8, aw9, aw10, aw11, aw12, aw13, aw14, aw15, aw16, aw19, Nat.reduceLeDiff, if_true, if_false, Nat.reduceEqDiff, Nat.reduceAdd, beq_self_eq_true, beq_true, beq_false, Bool.false_eq_true]
    refine EvF.ret hp' ?_
    cases hx : p s
    · rw [hx] at h2
      simp only [Bool.false_eq_true, if_false] at h2
      simp only [w3, ne_eq, not_false_eq_true, Option.map_some, Option.map_none, List.map_cons, List.map_nil, Bool.not_true, Bool.not_false, decide_true, decide_false, List.getElem?_cons_zero, List.getElem?_cons_succ, ↓aw1, ↓aw2, ↓aw17, aw3, aw4, aw5, aw6, aw7, aw8, aw9, aw10, aw11, aw12, aw13, aw14, aw15, aw16, aw19, Nat.reduceLeDiff, if_true, if_false, Nat.reduceEqDiff, Nat.reduceAdd, beq_self_eq_true, beq_true, beq_false, Bool.false_eq_true]
      exact ⟨i + 1, ⟨by omega, h2⟩, by omega, weak_of rfl (by simp [look])⟩
    · rw [hx] at h2
      simp only [if_true] at h2
      subst h2
      simp only [ne_eq, not_false_eq_true, Option.map_some, Option.map_none, List.map_cons, List.map_nil, Bool.not_true, Bool.not_false, decide_true, decide_false, List.getElem?_cons_zero, List.getElem?_cons_succ, ↓aw1, ↓aw2, ↓aw17, aw3, aw4, aw5, aw6, aw7, aw8, aw9, aw10, aw11, aw12, aw13, aw14, aw15, aw16, aw19, Nat.reduceLeDiff, if_true, if_false, Nat.reduceEqDiff, Nat.reduceAdd, beq_self_eq_true, beq_true, beq_false, Bool.false_eq_true]
      exact Fin.same0 hcl rfl ⟨rfl, rfl⟩
  · have e1 : decide ((i : Int) < (l.length : Int)) = false := by simp; omega
    rw [List.drop_eq_nil_of_le (by omega)] at h2
    unfold idx at h2
    subst h2
    simp only [e1, ne_eq, not_false_eq_true, Option.map_some, Option.map_none, List.map_cons, List.map_nil, Bool.not_true, Bool.not_false, decide_true, decide_false, List.getElem?_cons_zero, List.getElem?_cons_succ, ↓aw1, ↓aw2, ↓aw17, aw3, aw4, aw5, aw6, aw7, aw8, aw9, aw10, aw11, aw12, aw13, aw14, aw15, aw16, aw19, Nat.reduceLeDiff, if_true, if_false, Nat.reduceEqDiff, Nat.reduceAdd, beq_self_eq_true, beq_true, beq_false, Bool.false_eq_true]
    exact Fin.same0 hcl rfl ⟨rfl, rfl⟩

theorem stmt_any (l : List Stmt) (f : FuncId) (caps : List AV) (p : Stmt → Bool) (h : List AObj) (hl : l.length < 2 ^ 60) (hp : ∀ s, s ∈ l → EvR E0 f (stmtv s :: caps.map AV.strip) h (boolv (p s))) :
    EvR E0 38 [bodyv l, .fn (.func f) [] caps] h (boolv (l.any p)) := by
  refine ev_of (fn := Tryd.f38) (hs := []) Tryd.func38 c38 (by simp) fun hcl => ?_
  simp only [ac38, ne_eq, not_false_eq_true, Option.map_some, Option.map_none, List.map_cons, List.map_nil, Bool.not_true, Bool.not_false, decide_true, decide_false, List.getElem?_cons_zero, List.getElem?_cons_succ, ↓aw1, ↓aw2, ↓aw17, aw3, aw4, aw5, aw6, aw7, aw8, aw9, aw10, aw11, aw12, aw13, aw14, aw15, aw16, aw19, Nat.reduceLeDiff, if_true, if_false, Nat.reduceEqDiff, Nat.reduceAdd, beq_self_eq_true, beq_true, beq_false, Bool.false_eq_true]
  refine EvF.ret (stmt_idx l f caps p h hl hp) ?_
  simp only [idx_any, ne_eq, not_false_eq_true, Option.map_some, Option.map_none, List.map_cons, List.map_nil, Bool.not_true, Bool.not_false, decide_true, decide_false, List.getElem?_cons_zero, List.getElem?_cons_succ, ↓aw1, ↓aw2, ↓aw17, aw3, aw4, aw5, aw6, aw7, aw8, aw9, aw10, aw11, aw12, aw13, aw14, aw15, aw16, aw19, Nat.reduceLeDiff, if_true, if_false, Nat.reduceEqDiff, Nat.reduceAdd, beq_self_eq_true, beq_true, beq_false, Bool.false_eq_true]
  exact Fin.same0 hcl rfl ⟨rfl, rfl⟩

theorem fun_idx (l : List Fun) (f : FuncId) (caps : List AV) (p : Fun → Bool) (h : List AObj) (hl : l.length < 2 ^ 60) (hp : ∀ s, s ∈ l → EvR E0 f (funv s :: caps.map AV.strip) h (boolv (p s))) :
    EvR E0 35 [funsv l, .fn (.func f) [] caps] h (i64 (idx p l 0)) := by
  refine ev_of (fn := Tryd.f35) (hs := []) Tryd.func35 c35 (by simp) fun hcl => ?_
  generalize hR : idx p l 0 = R
  simp only [ac35, List.length_map, ne_eq, not_false_eq_true, Option.map_some, Option.map_none, List.map_cons, List.map_nil, Bool.not_true, Bool.not_false, decide_true, decide_false, List.getElem?_cons_zero, List.getElem?_cons_succ, ↓aw1, ↓aw2, ↓aw17, aw3, aw4, aw5, aw6, aw7, aw8, aw9, aw10, aw11, aw12, aw13, aw14, aw15, aw16, aw19, Nat.reduceLeDiff, if_true, if_false, Nat.reduceEqDiff, Nat.reduceAdd, beq_self_eq_true, beq_true, beq_false, Bool.false_eq_true]
  refine LoopF.by (α := Nat) (fun i => ⟨[(0, funsv l), (1, .fn (.func f) [] caps), (6, funsv l), (7, i64 l.length), (8, i64 i)], h⟩) (fun i => l.length - i)
    (fun i => i ≤ l.length ∧ idx p (l.drop i) i = R) 0 ⟨by omega, by simpa using hR⟩ (weak_of rfl (by simp [look])) ?_
  rintro i ⟨h1, h2⟩
  by_cases hi : i < l.length
  · obtain ⟨s, hs⟩ : ∃ s, l[i]? = some s := ⟨_, List.getElem?_eq_getElem hi⟩
    have e1 : decide ((i : Int) < (l.length : Int)) = true := by simp; omega
    have w3 : IntKind.i64.wrap ((i : Int) + 1) = ((i + 1 : Nat) : Int) := by rw [wrap_i64] <;> omega
    have hp' := hp s (List.mem_of_getElem? hs)
    rw [drop_get hs] at h2
    unfold idx at h2
    simp only [funv] at hp'
    simp only [e1, ne_eq, not_false_eq_true, Option.map_some, Option.map_none, List.map_cons, List.map_nil, Bool.not_true, Bool.not_false, decide_true, decide_false, List.getElem?_cons_zero, List.getElem?_cons_succ, ↓aw1, ↓aw2, ↓aw17, aw3, aw4, aw5, aw6, aw7, aw8, aw9, aw10, aw11, aw12, aw13, aw14, aw15, aw16, aw19, Nat.reduceLeDiff, if_true, if_false, Nat.reduceEqDiff, Nat.reduceAdd, beq_self_eq_true, beq_true, beq_false, Bool.false_eq_true]
    refine Need.mk ⟨by omega, by simp; omega⟩ (Elem.recs (map_get funv l i s hs) (by simp only [funv]; exact ⟨rfl, rfl⟩) ?_)
    simp only [funv, List.take_succ_cons, List.take_zero, List.drop_zero, List.drop_succ_cons, ne_eq, not_false_eq_true, Option.map_some, Option.map_none, List.map_cons, List.map_nil, Bool.not_true, Bool.not_false, decide_true, decide_false, List.getElem?_cons_zero, List.getElem?_cons_succ, ↓aw1, ↓aw2, ↓aw17, aw3, aw4, aw5, aw6, aw7, aw8, aw9, aw10, aw11, aw12, aw13, aw14, aw15, aw16, aw19, Nat.reduceLeDiff, if_true, if_false, Nat.reduceEqDiff, Nat.reduceAdd, beq_self_eq_true, beq_true, beq_false, Bool.false_eq_true]
    refine EvF.ret hp' ?_
    cases hx : p s
    · rw [hx] at h2
      simp only [Bool.false_eq_true, if_false] at h2
      simp only [w3, ne_eq, not_false_eq_true, Option.map_some, Option.map_none, List.map_cons, List.map_nil, Bool.not_true, Bool.not_false, decide_true, decide_false, List.getElem?_cons_zero, List.getElem?_cons_succ, ↓aw1, ↓aw2, ↓aw17, aw3, aw4, aw5, aw6, aw7, aw8, aw9, aw10, aw11, aw12, aw13, aw14, aw15, aw16, aw19, Nat.reduceLeDiff, if_true, if_false, Nat.reduceEqDiff, Nat.reduceAdd, beq_self_eq_true, beq_true, beq_false, Bool.false_eq_true]
      exact ⟨i + 1, ⟨by omega, h2⟩, by omega, weak_of rfl (by simp [look])⟩
    · rw [hx] at h2
      simp only [if_true] at h2
      subst h2
      simp only [ne_eq, not_false_eq_true, Option.map_some, Option.map_none, List.map_cons, List.map_nil, Bool.not_true, Bool.not_false, decide_true, decide_false, List.getElem?_cons_zero, List.getElem?_cons_succ, ↓aw1, ↓aw2, ↓aw17, aw3, aw4, aw5, aw6, aw7, aw8, aw9, aw10, aw11, aw12, aw13, aw14, aw15, aw16, aw19, Nat.reduceLeDiff, if_true, if_false, Nat.reduceEqDiff, Nat.reduceAdd, beq_self_eq_true, beq_true, beq_false, Bool.false_eq_true]
      exact Fin.same0 hcl rfl ⟨rfl, rfl⟩
  · have e1 : decide ((i : Int) < (l.length : Int)) = false := by simp; omega
    rw [List.drop_eq_nil_of_le (by omega)] at h2
    unfold idx at h2
    subst h2
    simp only [e1, ne_eq, not_false_eq_true, Option.map_some, Option.map_none, List.map_cons, List.map_nil, Bool.not_true, Bool.not_false, decide_true, decide_false, List.getElem?_cons_zero, List.getElem?_cons_succ, ↓aw1, ↓aw2, ↓aw17, aw3, aw4, aw5, aw6, aw7, aw8, aw9, aw10, aw11, aw12, aw13, aw14, aw15, aw16, aw19, Nat.reduceLeDiff, if_true, if_false, Nat.reduceEqDiff, Nat.reduceAdd, beq_self_eq_true, beq_true, beq_false, Bool.false_eq_true]
    exact Fin.same0 hcl rfl ⟨rfl, rfl⟩

theorem fun_any (l : List Fun) (f : FuncId) (caps : List AV) (p : Fun → Bool) (h : List AObj) (hl : l.length < 2 ^ 60) (hp : ∀ s, s ∈ l → EvR E0 f (funv s :: caps.map AV.strip) h (boolv (p s))) :
    EvR E0 18 [funsv l, .fn (.func f) [] caps] h (boolv (l.any p)) := by
  refine ev_of (fn := Tryd.f18) (hs := []) Tryd.func18 c18 (by simp) fun hcl => ?_
  simp only [ac18, ne_eq, not_false_eq_true, Option.map_some, Option.map_none, List.map_cons, List.map_nil, Bool.not_true, Bool.not_false, decide_true, decide_false, List.getElem?_cons_zero, List.getElem?_cons_succ, ↓aw1, ↓aw2, ↓aw17, aw3, aw4, aw5, aw6, aw7, aw8, aw9, aw10, aw11, aw12, aw13, aw14, aw15, aw16, aw19, Nat.reduceLeDiff, if_true, if_false, Nat.reduceEqDiff, Nat.reduceAdd, beq_self_eq_true, beq_true, beq_false, Bool.false_eq_true]
  refine EvF.ret (fun_idx l f caps p h hl hp) ?_
  simp only [idx_any, ne_eq, not_false_eq_true, Option.map_some, Option.map_none, List.map_cons, List.map_nil, Bool.not_true, Bool.not_false, decide_true, decide_false, List.getElem?_cons_zero, List.getElem?_cons_succ, ↓aw1, ↓aw2, ↓aw17, aw3, aw4, aw5, aw6, aw7, aw8, aw9, aw10, aw11, aw12, aw13, aw14, aw15, aw16, aw19, Nat.reduceLeDiff, if_true, if_false, Nat.reduceEqDiff, Nat.reduceAdd, beq_self_eq_true, beq_true, beq_false, Bool.false_eq_true]
  exact Fin.same0 hcl rfl ⟨rfl, rfl⟩
end Go.Abs.Fr

namespace Go.Abs.Fr
open Go Go.Abs Go.Proofs
set_option linter.unusedSimpArgs false
set_option maxRecDepth 100000

/-! ### How much there is, characters too -/
def wA : List Arg → Nat
  | [] => 0
  | a :: l => 1 + a.s.size + wA l
mutual
def wS : Stmt → Nat
  | .mk _ n a t e => 1 + n.size + wA a + wL t + wL e
def wL : List Stmt → Nat
  | [] => 0
  | s :: l => wS s + wL l
end
theorem wS_eq (s : Stmt) : wS s = 1 + s.name.size + wA s.args + wL s.thn + wL s.els := by cases s; simp only [wS]; rfl
theorem wL_mem : ∀ {l : List Stmt} {s : Stmt}, s ∈ l → wS s ≤ wL l
  | x :: l, s, h => by
    rcases List.mem_cons.1 h with rfl | h
    · simp only [wL]; omega
    · have := wL_mem h; simp only [wL]; omega
theorem wL_len : ∀ (l : List Stmt), l.length ≤ wL l
  | [] => by simp [wL]
  | s :: l => by have := wL_len l; have := wS_eq s; simp only [wL, List.length_cons]; omega
theorem wA_len : ∀ (l : List Arg), l.length ≤ wA l
  | [] => by simp [wA]
  | s :: l => by have := wA_len l; simp only [wA, List.length_cons]; omega
theorem wA_mem {l : List Arg} {a : Arg} (h : a ∈ l) : a.s.size < wA l := by
  induction l with
  | nil => cases h
  | cons x l ih =>
    simp only [wA]
    rcases List.mem_cons.1 h with h | h
    · rw [h]; omega
    · have := ih h; omega
def wF : List Fun → Nat
  | [] => 0
  | f :: l => 1 + f.name.size + wL f.body + wF l
theorem wF_len : ∀ (l : List Fun), l.length ≤ wF l
  | [] => by simp [wF]
  | s :: l => by have := wF_len l; simp only [wF, List.length_cons]; omega
theorem wF_mem : ∀ {l : List Fun} {f : Fun}, f ∈ l → 1 + f.name.size + wL f.body ≤ wF l
  | x :: l, s, h => by
    rcases List.mem_cons.1 h with rfl | h
    · simp only [wF]; omega
    · have := wF_mem h; simp only [wF]; omega
mutual
theorem szS_wS : ∀ (s : Stmt), szS s ≤ wS s
  | .mk o n a t e => by have := szL_wL t; have := szL_wL e; simp only [szS, wS]; omega
theorem szL_wL : ∀ (l : List Stmt), szL l ≤ wL l
  | [] => by simp [szL]
  | s :: l => by have := szS_wS s; have := szL_wL l; simp only [szL, wL]; omega
end
theorem szF_wF : ∀ (l : List Fun), szF l ≤ wF l
  | [] => by simp [szF]
  | f :: l => by have := szF_wF l; have := szL_wL f.body; simp only [szF, wF]; omega

/-! ### Shaped -/
def okArg (a : Arg) : Bool := if a.text then decide (a.n = 0) else decide (a.s = ⟨#[]⟩) && !decide (a.n = -9223372036854775808)
def okS (B : List Stmt → Bool) (s : Stmt) : Bool :=
  if decide (s.op = 2) then isFn s.name && decide (s.args.length + s.thn.length + s.els.length = 0)
  else if !isMe s.name || (decide (4096 < s.args.length) || s.args.any fun a => !okArg a) then false
  else if decide (s.op = 1) then decide (s.thn.length + s.els.length = 0)
  else if decide (s.op = 4) then decide (s.els.length = 0) && B s.thn
  else decide (s.op = 3) && (B s.thn && B s.els)
def okB : Nat → List Stmt → Bool
  | 0, l => decide (l.length = 0)
  | r + 1, l => !l.any fun s => !okS (okB r) s
def okF (f : Fun) : Bool := isFn f.name && okB 40 f.body
def okFs (l : List Fun) : Bool := decide (l.length ≤ 4096) && !l.any fun f => !okF f

theorem arg_ev (a : Arg) (h : List AObj) : EvR E0 57 [argv a] h (boolv (okArg a)) := by
  refine ev_of (fn := Tryd.f57) (hs := []) Tryd.func57 c57 (by simp) fun hcl => ?_
  obtain ⟨t, n, s, hn⟩ := a
  simp only [ac57, argv, last_obj, List.drop_zero, List.drop_succ_cons, ne_eq, not_false_eq_true, Option.map_some, Option.map_none, List.map_cons, List.map_nil, Bool.not_true, Bool.not_false, decide_true, decide_false, List.getElem?_cons_zero, List.getElem?_cons_succ, ↓aw1, ↓aw2, ↓aw17, aw3, aw4, aw5, aw6, aw7, aw8, aw9, aw10, aw11, aw12, aw13, aw14, aw15, aw16, aw19, Nat.reduceLeDiff, if_true, if_false, Nat.reduceEqDiff, Nat.reduceAdd, beq_self_eq_true, beq_true, beq_false, Bool.false_eq_true]
  cases t
  · cases hs : decide (s = ⟨#[]⟩)
    · simp only [hs, last_obj, ne_eq, not_false_eq_true, Option.map_some, Option.map_none, List.map_cons, List.map_nil, Bool.not_true, Bool.not_false, decide_true, decide_false, List.getElem?_cons_zero, List.getElem?_cons_succ, ↓aw1, ↓aw2, ↓aw17, aw3, aw4, aw5, aw6, aw7, aw8, aw9, aw10, aw11, aw12, aw13, aw14, aw15, aw16, aw19, Nat.reduceLeDiff, if_true, if_false, Nat.reduceEqDiff, Nat.reduceAdd, beq_self_eq_true, beq_true, beq_false, Bool.false_eq_true]
      exact Fin.same hcl rfl ⟨by simp [okArg, hs], rfl⟩
    · simp only [hs, last_obj, ne_eq, not_false_eq_true, Option.map_some, Option.map_none, List.map_cons, List.map_nil, Bool.not_true, Bool.not_false, decide_true, decide_false, List.getElem?_cons_zero, List.getElem?_cons_succ, ↓aw1, ↓aw2, ↓aw17, aw3, aw4, aw5, aw6, aw7, aw8, aw9, aw10, aw11, aw12, aw13, aw14, aw15, aw16, aw19, Nat.reduceLeDiff, if_true, if_false, Nat.reduceEqDiff, Nat.reduceAdd, beq_self_eq_true, beq_true, beq_false, Bool.false_eq_true]
      exact Fin.same hcl rfl ⟨by simp [okArg, hs], rfl⟩
  · simp only [last_obj, ne_eq, not_false_eq_true, Option.map_some, Option.map_none, List.map_cons, List.map_nil, Bool.not_true, Bool.not_false, decide_true, decide_false, List.getElem?_cons_zero, List.getElem?_cons_succ, ↓aw1, ↓aw2, ↓aw17, aw3, aw4, aw5, aw6, aw7, aw8, aw9, aw10, aw11, aw12, aw13, aw14, aw15, aw16, aw19, Nat.reduceLeDiff, if_true, if_false, Nat.reduceEqDiff, Nat.reduceAdd, beq_self_eq_true, beq_true, beq_false, Bool.false_eq_true]
    exact Fin.same hcl rfl ⟨by simp [okArg], rfl⟩

theorem argnot_ev (a : Arg) (h : List AObj) : EvR E0 56 [argv a] h (boolv (!okArg a)) := by
  refine ev_of (fn := Tryd.f56) (hs := []) Tryd.func56 c56 (by simp) fun hcl => ?_
  have ha := arg_ev a
  simp only [argv] at ha
  simp only [ac56, argv, last_obj, List.take_succ_cons, List.take_zero, List.drop_zero, List.drop_succ_cons, ne_eq, not_false_eq_true, Option.map_some, Option.map_none, List.map_cons, List.map_nil, Bool.not_true, Bool.not_false, decide_true, decide_false, List.getElem?_cons_zero, List.getElem?_cons_succ, ↓aw1, ↓aw2, ↓aw17, aw3, aw4, aw5, aw6, aw7, aw8, aw9, aw10, aw11, aw12, aw13, aw14, aw15, aw16, aw19, Nat.reduceLeDiff, if_true, if_false, Nat.reduceEqDiff, Nat.reduceAdd, beq_self_eq_true, beq_true, beq_false, Bool.false_eq_true]
  refine EvF.ret (ha _) ?_
  simp only [ne_eq, not_false_eq_true, Option.map_some, Option.map_none, List.map_cons, List.map_nil, Bool.not_true, Bool.not_false, decide_true, decide_false, List.getElem?_cons_zero, List.getElem?_cons_succ, ↓aw1, ↓aw2, ↓aw17, aw3, aw4, aw5, aw6, aw7, aw8, aw9, aw10, aw11, aw12, aw13, aw14, aw15, aw16, aw19, Nat.reduceLeDiff, if_true, if_false, Nat.reduceEqDiff, Nat.reduceAdd, beq_self_eq_true, beq_true, beq_false, Bool.false_eq_true]
  exact Fin.same hcl rfl ⟨rfl, rfl⟩

set_option maxHeartbeats 1000000 in
theorem stmt_ev (r : Nat) (hr : r < 2 ^ 60) (ih : ∀ (l : List Stmt) (h : List AObj), wL l < 2 ^ 40 → EvR E0 21 [bodyv l, i64 r] h (boolv (okB r l)))
    (s : Stmt) (hs : wS s < 2 ^ 40) (h : List AObj) : EvR E0 40 [stmtv s, i64 ((r + 1 : Nat) : Int)] h (boolv (okS (okB r) s)) := by
  refine ev_of (fn := Tryd.f40) (hs := []) Tryd.func40 c40 (by simp) fun hcl => ?_
  have hw := wS_eq s
  have ha := wA_len s.args
  have ht := wL_len s.thn
  have he := wL_len s.els
  have hfn := fun h => function_ev s.name h (by omega)
  have hme := fun h => method_ev s.name h (by omega)
  have hany := fun h => arg_any s.args 56 [] (fun a => !okArg a) h (by omega) (fun a _ => argnot_ev a h)
  have hthn := fun h => ih s.thn h (by omega)
  have hels := fun h => ih s.els h (by omega)
  have w1 : IntKind.i64.wrap ((s.args.length : Int) + (s.thn.length : Int)) = ((s.args.length + s.thn.length : Nat) : Int) := by rw [wrap_i64] <;> omega
  have w2 : IntKind.i64.wrap (((s.args.length + s.thn.length : Nat) : Int) + (s.els.length : Int)) = ((s.args.length + s.thn.length + s.els.length : Nat) : Int) := by rw [wrap_i64] <;> omega
  have w3 : IntKind.i64.wrap ((s.thn.length : Int) + (s.els.length : Int)) = ((s.thn.length + s.els.length : Nat) : Int) := by rw [wrap_i64] <;> omega
  have w4 : IntKind.i64.wrap (((r + 1 : Nat) : Int) - 1) = (r : Int) := by rw [wrap_i64] <;> omega
  have d1 : decide (((s.args.length + s.thn.length + s.els.length : Nat) : Int) = 0) = decide (s.args.length + s.thn.length + s.els.length = 0) := by rw [decide_eq_decide]; omega
  have d2 : decide (((s.thn.length + s.els.length : Nat) : Int) = 0) = decide (s.thn.length + s.els.length = 0) := by rw [decide_eq_decide]; omega
  have d3 : decide ((s.els.length : Int) = 0) = decide (s.els.length = 0) := by rw [decide_eq_decide]; omega
  have d4 : decide ((4096 : Int) < (s.args.length : Int)) = decide (4096 < s.args.length) := by rw [decide_eq_decide]; omega
  simp only [ac40, stmtv_eq, last_obj, List.drop_zero, List.drop_succ_cons, ne_eq, not_false_eq_true, Option.map_some, Option.map_none, List.map_cons, List.map_nil, Bool.not_true, Bool.not_false, decide_true, decide_false, List.getElem?_cons_zero, List.getElem?_cons_succ, ↓aw1, ↓aw2, ↓aw17, aw3, aw4, aw5, aw6, aw7, aw8, aw9, aw10, aw11, aw12, aw13, aw14, aw15, aw16, aw19, Nat.reduceLeDiff, if_true, if_false, Nat.reduceEqDiff, Nat.reduceAdd, beq_self_eq_true, beq_true, beq_false, Bool.false_eq_true]
  cases k2 : decide (s.op = 2)
  · simp only [k2, last_obj, List.drop_zero, List.drop_succ_cons, ne_eq, not_false_eq_true, Option.map_some, Option.map_none, List.map_cons, List.map_nil, Bool.not_true, Bool.not_false, decide_true, decide_false, List.getElem?_cons_zero, List.getElem?_cons_succ, ↓aw1, ↓aw2, ↓aw17, aw3, aw4, aw5, aw6, aw7, aw8, aw9, aw10, aw11, aw12, aw13, aw14, aw15, aw16, aw19, Nat.reduceLeDiff, if_true, if_false, Nat.reduceEqDiff, Nat.reduceAdd, beq_self_eq_true, beq_true, beq_false, Bool.false_eq_true]
    refine EvF.ret (hme _) ?_
    cases m1 : isMe s.name
    · simp only [ne_eq, not_false_eq_true, Option.map_some, Option.map_none, List.map_cons, List.map_nil, Bool.not_true, Bool.not_false, decide_true, decide_false, List.getElem?_cons_zero, List.getElem?_cons_succ, ↓aw1, ↓aw2, ↓aw17, aw3, aw4, aw5, aw6, aw7, aw8, aw9, aw10, aw11, aw12, aw13, aw14, aw15, aw16, aw19, Nat.reduceLeDiff, if_true, if_false, Nat.reduceEqDiff, Nat.reduceAdd, beq_self_eq_true, beq_true, beq_false, Bool.false_eq_true]
      exact Fin.same hcl rfl ⟨by simp only [okS, k2, m1, Bool.not_true, Bool.not_false, Bool.true_and, Bool.false_and, Bool.and_true, Bool.and_false, Bool.or_false, Bool.false_or, Bool.or_true, Bool.true_or, if_true, if_false, Bool.false_eq_true], rfl⟩
    · cases m2 : decide (4096 < s.args.length)
      · simp only [last_obj, List.length_map, d4, m2, List.drop_zero, List.drop_succ_cons, ne_eq, not_false_eq_true, Option.map_some, Option.map_none, List.map_cons, List.map_nil, Bool.not_true, Bool.not_false, decide_true, decide_false, List.getElem?_cons_zero, List.getElem?_cons_succ, ↓aw1, ↓aw2, ↓aw17, aw3, aw4, aw5, aw6, aw7, aw8, aw9, aw10, aw11, aw12, aw13, aw14, aw15, aw16, aw19, Nat.reduceLeDiff, if_true, if_false, Nat.reduceEqDiff, Nat.reduceAdd, beq_self_eq_true, beq_true, beq_false, Bool.false_eq_true]
        refine EvF.ret (hany _) ?_
        cases m3 : s.args.any fun a => !okArg a
        · simp only [last_obj, List.drop_zero, List.drop_succ_cons, ne_eq, not_false_eq_true, Option.map_some, Option.map_none, List.map_cons, List.map_nil, Bool.not_true, Bool.not_false, decide_true, decide_false, List.getElem?_cons_zero, List.getElem?_cons_succ, ↓aw1, ↓aw2, ↓aw17, aw3, aw4, aw5, aw6, aw7, aw8, aw9, aw10, aw11, aw12, aw13, aw14, aw15, aw16, aw19, Nat.reduceLeDiff, if_true, if_false, Nat.reduceEqDiff, Nat.reduceAdd, beq_self_eq_true, beq_true, beq_false, Bool.false_eq_true]
          cases k1 : decide (s.op = 1)
          · cases k4 : decide (s.op = 4)
            · cases k3 : decide (s.op = 3)
              · simp only [last_obj, k1, k3, k4, List.drop_zero, List.drop_succ_cons, ne_eq, not_false_eq_true, Option.map_some, Option.map_none, List.map_cons, List.map_nil, Bool.not_true, Bool.not_false, decide_true, decide_false, List.getElem?_cons_zero, List.getElem?_cons_succ, ↓aw1, ↓aw2, ↓aw17, aw3, aw4, aw5, aw6, aw7, aw8, aw9, aw10, aw11, aw12, aw13, aw14, aw15, aw16, aw19, Nat.reduceLeDiff, if_true, if_false, Nat.reduceEqDiff, Nat.reduceAdd, beq_self_eq_true, beq_true, beq_false, Bool.false_eq_true]
                exact Fin.same hcl rfl ⟨by simp only [okS, k2, m1, m2, m3, k1, k3, k4, Bool.not_true, Bool.not_false, Bool.true_and, Bool.false_and, Bool.and_true, Bool.and_false, Bool.or_false, Bool.false_or, Bool.or_true, Bool.true_or, if_true, if_false, Bool.false_eq_true], rfl⟩
              · simp only [last_obj, k1, k3, k4, w4, List.drop_zero, List.drop_succ_cons, ne_eq, not_false_eq_true, Option.map_some, Option.map_none, List.map_cons, List.map_nil, Bool.not_true, Bool.not_false, decide_true, decide_false, List.getElem?_cons_zero, List.getElem?_cons_succ, ↓aw1, ↓aw2, ↓aw17, aw3, aw4, aw5, aw6, aw7, aw8, aw9, aw10, aw11, aw12, aw13, aw14, aw15, aw16, aw19, Nat.reduceLeDiff, if_true, if_false, Nat.reduceEqDiff, Nat.reduceAdd, beq_self_eq_true, beq_true, beq_false, Bool.false_eq_true]
                refine EvF.ret (hthn _) ?_
                cases b1 : okB r s.thn
                · simp only [last_obj, w4, List.drop_zero, List.drop_succ_cons, ne_eq, not_false_eq_true, Option.map_some, Option.map_none, List.map_cons, List.map_nil, Bool.not_true, Bool.not_false, decide_true, decide_false, List.getElem?_cons_zero, List.getElem?_cons_succ, ↓aw1, ↓aw2, ↓aw17, aw3, aw4, aw5, aw6, aw7, aw8, aw9, aw10, aw11, aw12, aw13, aw14, aw15, aw16, aw19, Nat.reduceLeDiff, if_true, if_false, Nat.reduceEqDiff, Nat.reduceAdd, beq_self_eq_true, beq_true, beq_false, Bool.false_eq_true]
                  exact Fin.same hcl rfl ⟨by simp only [okS, k2, m1, m2, m3, k1, k3, k4, b1, Bool.not_true, Bool.not_false, Bool.true_and, Bool.false_and, Bool.and_true, Bool.and_false, Bool.or_false, Bool.false_or, Bool.or_true, Bool.true_or, if_true, if_false, Bool.false_eq_true], rfl⟩
                · simp only [last_obj, w4, List.drop_zero, List.drop_succ_cons, ne_eq, not_false_eq_true, Option.map_some, Option.map_none, List.map_cons, List.map_nil, Bool.not_true, Bool.not_false, decide_true, decide_false, List.getElem?_cons_zero, List.getElem?_cons_succ, ↓aw1, ↓aw2, ↓aw17, aw3, aw4, aw5, aw6, aw7, aw8, aw9, aw10, aw11, aw12, aw13, aw14, aw15, aw16, aw19, Nat.reduceLeDiff, if_true, if_false, Nat.reduceEqDiff, Nat.reduceAdd, beq_self_eq_true, beq_true, beq_false, Bool.false_eq_true]
                  refine EvF.ret (hels _) ?_
                  simp only [ne_eq, not_false_eq_true, Option.map_some, Option.map_none, List.map_cons, List.map_nil, Bool.not_true, Bool.not_false, decide_true, decide_false, List.getElem?_cons_zero, List.getElem?_cons_succ, ↓aw1, ↓aw2, ↓aw17, aw3, aw4, aw5, aw6, aw7, aw8, aw9, aw10, aw11, aw12, aw13, aw14, aw15, aw16, aw19, Nat.reduceLeDiff, if_true, if_false, Nat.reduceEqDiff, Nat.reduceAdd, beq_self_eq_true, beq_true, beq_false, Bool.false_eq_true]
                  exact Fin.same hcl rfl ⟨by simp only [okS, k2, m1, m2, m3, k1, k3, k4, b1, Bool.not_true, Bool.not_false, Bool.true_and, Bool.false_and, Bool.and_true, Bool.and_false, Bool.or_false, Bool.false_or, Bool.or_true, Bool.true_or, if_true, if_false, Bool.false_eq_true], rfl⟩
            · cases e0 : decide (s.els.length = 0)
              · simp only [last_obj, k1, k4, d3, e0, List.length_map, List.drop_zero, List.drop_succ_cons, ne_eq, not_false_eq_true, Option.map_some, Option.map_none, List.map_cons, List.map_nil, Bool.not_true, Bool.not_false, decide_true, decide_false, List.getElem?_cons_zero, List.getElem?_cons_succ, ↓aw1, ↓aw2, ↓aw17, aw3, aw4, aw5, aw6, aw7, aw8, aw9, aw10, aw11, aw12, aw13, aw14, aw15, aw16, aw19, Nat.reduceLeDiff, if_true, if_false, Nat.reduceEqDiff, Nat.reduceAdd, beq_self_eq_true, beq_true, beq_false, Bool.false_eq_true]
                exact Fin.same hcl rfl ⟨by simp only [okS, k2, m1, m2, m3, k1, k4, e0, Bool.not_true, Bool.not_false, Bool.true_and, Bool.false_and, Bool.and_true, Bool.and_false, Bool.or_false, Bool.false_or, Bool.or_true, Bool.true_or, if_true, if_false, Bool.false_eq_true], rfl⟩
              · simp only [last_obj, k1, k4, d3, e0, w4, List.length_map, List.drop_zero, List.drop_succ_cons, ne_eq, not_false_eq_true, Option.map_some, Option.map_none, List.map_cons, List.map_nil, Bool.not_true, Bool.not_false, decide_true, decide_false, List.getElem?_cons_zero, List.getElem?_cons_succ, ↓aw1, ↓aw2, ↓aw17, aw3, aw4, aw5, aw6, aw7, aw8, aw9, aw10, aw11, aw12, aw13, aw14, aw15, aw16, aw19, Nat.reduceLeDiff, if_true, if_false, Nat.reduceEqDiff, Nat.reduceAdd, beq_self_eq_true, beq_true, beq_false, Bool.false_eq_true]
                refine EvF.ret (hthn _) ?_
                simp only [ne_eq, not_false_eq_true, Option.map_some, Option.map_none, List.map_cons, List.map_nil, Bool.not_true, Bool.not_false, decide_true, decide_false, List.getElem?_cons_zero, List.getElem?_cons_succ, ↓aw1, ↓aw2, ↓aw17, aw3, aw4, aw5, aw6, aw7, aw8, aw9, aw10, aw11, aw12, aw13, aw14, aw15, aw16, aw19, Nat.reduceLeDiff, if_true, if_false, Nat.reduceEqDiff, Nat.reduceAdd, beq_self_eq_true, beq_true, beq_false, Bool.false_eq_true]
                exact Fin.same hcl rfl ⟨by simp only [okS, k2, m1, m2, m3, k1, k4, e0, Bool.not_true, Bool.not_false, Bool.true_and, Bool.false_and, Bool.and_true, Bool.and_false, Bool.or_false, Bool.false_or, Bool.or_true, Bool.true_or, if_true, if_false, Bool.false_eq_true], rfl⟩
          · simp only [last_obj, k1, w3, d2, List.length_map, List.drop_zero, List.drop_succ_cons, ne_eq, not_false_eq_true, Option.map_some, Option.map_none, List.map_cons, List.map_nil, Bool.not_true, Bool.not_false, decide_true, decide_false, List.getElem?_cons_zero, List.getElem?_cons_succ, ↓aw1, ↓aw2, ↓aw17, aw3, aw4, aw5, aw6, aw7, aw8, aw9, aw10, aw11, aw12, aw13, aw14, aw15, aw16, aw19, Nat.reduceLeDiff, if_true, if_false, Nat.reduceEqDiff, Nat.reduceAdd, beq_self_eq_true, beq_true, beq_false, Bool.false_eq_true]
            exact Fin.same hcl rfl ⟨by simp only [okS, k2, m1, m2, m3, k1, Bool.not_true, Bool.not_false, Bool.true_and, Bool.false_and, Bool.and_true, Bool.and_false, Bool.or_false, Bool.false_or, Bool.or_true, Bool.true_or, if_true, if_false, Bool.false_eq_true], rfl⟩
        · simp only [ne_eq, not_false_eq_true, Option.map_some, Option.map_none, List.map_cons, List.map_nil, Bool.not_true, Bool.not_false, decide_true, decide_false, List.getElem?_cons_zero, List.getElem?_cons_succ, ↓aw1, ↓aw2, ↓aw17, aw3, aw4, aw5, aw6, aw7, aw8, aw9, aw10, aw11, aw12, aw13, aw14, aw15, aw16, aw19, Nat.reduceLeDiff, if_true, if_false, Nat.reduceEqDiff, Nat.reduceAdd, beq_self_eq_true, beq_true, beq_false, Bool.false_eq_true]
          exact Fin.same hcl rfl ⟨by simp only [okS, k2, m1, m2, m3, Bool.not_true, Bool.not_false, Bool.true_and, Bool.false_and, Bool.and_true, Bool.and_false, Bool.or_false, Bool.false_or, Bool.or_true, Bool.true_or, if_true, if_false, Bool.false_eq_true], rfl⟩
      · simp only [last_obj, List.length_map, d4, m2, List.drop_zero, List.drop_succ_cons, ne_eq, not_false_eq_true, Option.map_some, Option.map_none, List.map_cons, List.map_nil, Bool.not_true, Bool.not_false, decide_true, decide_false, List.getElem?_cons_zero, List.getElem?_cons_succ, ↓aw1, ↓aw2, ↓aw17, aw3, aw4, aw5, aw6, aw7, aw8, aw9, aw10, aw11, aw12, aw13, aw14, aw15, aw16, aw19, Nat.reduceLeDiff, if_true, if_false, Nat.reduceEqDiff, Nat.reduceAdd, beq_self_eq_true, beq_true, beq_false, Bool.false_eq_true]
        exact Fin.same hcl rfl ⟨by simp only [okS, k2, m1, m2, Bool.not_true, Bool.not_false, Bool.true_and, Bool.false_and, Bool.and_true, Bool.and_false, Bool.or_false, Bool.false_or, Bool.or_true, Bool.true_or, if_true, if_false, Bool.false_eq_true], rfl⟩
  · simp only [k2, last_obj, List.drop_zero, List.drop_succ_cons, ne_eq, not_false_eq_true, Option.map_some, Option.map_none, List.map_cons, List.map_nil, Bool.not_true, Bool.not_false, decide_true, decide_false, List.getElem?_cons_zero, List.getElem?_cons_succ, ↓aw1, ↓aw2, ↓aw17, aw3, aw4, aw5, aw6, aw7, aw8, aw9, aw10, aw11, aw12, aw13, aw14, aw15, aw16, aw19, Nat.reduceLeDiff, if_true, if_false, Nat.reduceEqDiff, Nat.reduceAdd, beq_self_eq_true, beq_true, beq_false, Bool.false_eq_true]
    refine EvF.ret (hfn _) ?_
    cases m1 : isFn s.name
    · simp only [ne_eq, not_false_eq_true, Option.map_some, Option.map_none, List.map_cons, List.map_nil, Bool.not_true, Bool.not_false, decide_true, decide_false, List.getElem?_cons_zero, List.getElem?_cons_succ, ↓aw1, ↓aw2, ↓aw17, aw3, aw4, aw5, aw6, aw7, aw8, aw9, aw10, aw11, aw12, aw13, aw14, aw15, aw16, aw19, Nat.reduceLeDiff, if_true, if_false, Nat.reduceEqDiff, Nat.reduceAdd, beq_self_eq_true, beq_true, beq_false, Bool.false_eq_true]
      exact Fin.same hcl rfl ⟨by simp only [okS, k2, m1, Bool.not_true, Bool.not_false, Bool.true_and, Bool.false_and, Bool.and_true, Bool.and_false, Bool.or_false, Bool.false_or, Bool.or_true, Bool.true_or, if_true, if_false, Bool.false_eq_true], rfl⟩
    · simp only [last_obj, List.length_map, w1, w2, d1, List.drop_zero, List.drop_succ_cons, ne_eq, not_false_eq_true, Option.map_some, Option.map_none, List.map_cons, List.map_nil, Bool.not_true, Bool.not_false, decide_true, decide_false, List.getElem?_cons_zero, List.getElem?_cons_succ, ↓aw1, ↓aw2, ↓aw17, aw3, aw4, aw5, aw6, aw7, aw8, aw9, aw10, aw11, aw12, aw13, aw14, aw15, aw16, aw19, Nat.reduceLeDiff, if_true, if_false, Nat.reduceEqDiff, Nat.reduceAdd, beq_self_eq_true, beq_true, beq_false, Bool.false_eq_true]
      exact Fin.same hcl rfl ⟨by simp only [okS, k2, m1, Bool.not_true, Bool.not_false, Bool.true_and, Bool.false_and, Bool.and_true, Bool.and_false, Bool.or_false, Bool.false_or, Bool.or_true, Bool.true_or, if_true, if_false, Bool.false_eq_true], rfl⟩

theorem stmtnot_ev (r : Nat) (hr : r < 2 ^ 60) (ih : ∀ (l : List Stmt) (h : List AObj), wL l < 2 ^ 40 → EvR E0 21 [bodyv l, i64 r] h (boolv (okB r l)))
    (s : Stmt) (hs : wS s < 2 ^ 40) (h : List AObj) (id : Nat) (hid : h[id]? = some (.cells [i64 ((r + 1 : Nat) : Int)])) : EvR E0 39 [stmtv s, .ref id 0] h (boolv (!okS (okB r) s)) := by
  refine ev_of (fn := Tryd.f39) (hs := []) Tryd.func39 c39 (by simp) fun hcl => ?_
  have hst := stmt_ev r hr ih s hs
  have hidl := (List.getElem?_eq_some_iff.1 hid).1
  have hid' : ∀ o, (h ++ [o])[id]? = some (.cells [i64 ((r + 1 : Nat) : Int)]) := fun o => by rw [List.getElem?_append_left hidl]; exact hid
  simp only [stmtv_eq] at hst
  simp only [ac39, stmtv_eq, last_obj, hid', List.take_succ_cons, List.take_zero, List.drop_zero, List.drop_succ_cons, ne_eq, not_false_eq_true, Option.map_some, Option.map_none, List.map_cons, List.map_nil, Bool.not_true, Bool.not_false, decide_true, decide_false, List.getElem?_cons_zero, List.getElem?_cons_succ, ↓aw1, ↓aw2, ↓aw17, aw3, aw4, aw5, aw6, aw7, aw8, aw9, aw10, aw11, aw12, aw13, aw14, aw15, aw16, aw19, Nat.reduceLeDiff, if_true, if_false, Nat.reduceEqDiff, Nat.reduceAdd, beq_self_eq_true, beq_true, beq_false, Bool.false_eq_true]
  refine EvF.ret (hst _) ?_
  simp only [ne_eq, not_false_eq_true, Option.map_some, Option.map_none, List.map_cons, List.map_nil, Bool.not_true, Bool.not_false, decide_true, decide_false, List.getElem?_cons_zero, List.getElem?_cons_succ, ↓aw1, ↓aw2, ↓aw17, aw3, aw4, aw5, aw6, aw7, aw8, aw9, aw10, aw11, aw12, aw13, aw14, aw15, aw16, aw19, Nat.reduceLeDiff, if_true, if_false, Nat.reduceEqDiff, Nat.reduceAdd, beq_self_eq_true, beq_true, beq_false, Bool.false_eq_true]
  exact Fin.same hcl rfl ⟨rfl, rfl⟩

theorem body_ev : ∀ (r : Nat), r < 2 ^ 60 → ∀ (l : List Stmt) (h : List AObj), wL l < 2 ^ 40 → EvR E0 21 [bodyv l, i64 r] h (boolv (okB r l)) := by
  intro r
  induction r with
  | zero =>
    intro _ l h hw
    refine ev_of (fn := Tryd.f21) (hs := []) Tryd.func21 c21 (by simp) fun hcl => ?_
    have d0 : decide ((l.length : Int) = 0) = decide (l.length = 0) := by rw [decide_eq_decide]; omega
    have dz : decide ((0 : Int) < ((0 : Nat) : Int)) = false := rfl
    cases h0 : decide (l.length = 0)
    · simp only [ac21, last_obj, List.length_map, d0, h0, dz, ne_eq, not_false_eq_true, Option.map_some, Option.map_none, List.map_cons, List.map_nil, Bool.not_true, Bool.not_false, decide_true, decide_false, List.getElem?_cons_zero, List.getElem?_cons_succ, ↓aw1, ↓aw2, ↓aw17, aw3, aw4, aw5, aw6, aw7, aw8, aw9, aw10, aw11, aw12, aw13, aw14, aw15, aw16, aw19, Nat.reduceLeDiff, if_true, if_false, Nat.reduceEqDiff, Nat.reduceAdd, beq_self_eq_true, beq_true, beq_false, Bool.false_eq_true]
      exact Fin.same hcl rfl ⟨by simp only [okB, h0], rfl⟩
    · simp only [ac21, last_obj, List.length_map, d0, h0, dz, ne_eq, not_false_eq_true, Option.map_some, Option.map_none, List.map_cons, List.map_nil, Bool.not_true, Bool.not_false, decide_true, decide_false, List.getElem?_cons_zero, List.getElem?_cons_succ, ↓aw1, ↓aw2, ↓aw17, aw3, aw4, aw5, aw6, aw7, aw8, aw9, aw10, aw11, aw12, aw13, aw14, aw15, aw16, aw19, Nat.reduceLeDiff, if_true, if_false, Nat.reduceEqDiff, Nat.reduceAdd, beq_self_eq_true, beq_true, beq_false, Bool.false_eq_true]
      exact Fin.same hcl rfl ⟨by simp only [okB, h0], rfl⟩
  | succ r ih =>
    intro hr l h hw
    have ih := ih (by omega)
    refine ev_of (fn := Tryd.f21) (hs := []) Tryd.func21 c21 (by simp) fun hcl => ?_
    have hlen := wL_len l
    have d0 : decide ((l.length : Int) = 0) = decide (l.length = 0) := by rw [decide_eq_decide]; omega
    have dr : decide ((0 : Int) < ((r + 1 : Nat) : Int)) = true := by rw [decide_eq_true_eq]; omega
    have hany := stmt_any l 39 [.ref h.length 0] (fun s => !okS (okB r) s) (h ++ [.cells [i64 ((r + 1 : Nat) : Int)]]) (by omega)
      (fun s hs => stmtnot_ev r (by omega) ih s (by have := wL_mem hs; omega) _ h.length (last_obj _ _))
    cases h0 : decide (l.length = 0)
    · simp only [ac21, last_obj, List.length_map, d0, h0, dr, ne_eq, not_false_eq_true, Option.map_some, Option.map_none, List.map_cons, List.map_nil, Bool.not_true, Bool.not_false, decide_true, decide_false, List.getElem?_cons_zero, List.getElem?_cons_succ, ↓aw1, ↓aw2, ↓aw17, aw3, aw4, aw5, aw6, aw7, aw8, aw9, aw10, aw11, aw12, aw13, aw14, aw15, aw16, aw19, Nat.reduceLeDiff, if_true, if_false, Nat.reduceEqDiff, Nat.reduceAdd, beq_self_eq_true, beq_true, beq_false, Bool.false_eq_true]
      refine EvF.ret hany ?_
      simp only [ne_eq, not_false_eq_true, Option.map_some, Option.map_none, List.map_cons, List.map_nil, Bool.not_true, Bool.not_false, decide_true, decide_false, List.getElem?_cons_zero, List.getElem?_cons_succ, ↓aw1, ↓aw2, ↓aw17, aw3, aw4, aw5, aw6, aw7, aw8, aw9, aw10, aw11, aw12, aw13, aw14, aw15, aw16, aw19, Nat.reduceLeDiff, if_true, if_false, Nat.reduceEqDiff, Nat.reduceAdd, beq_self_eq_true, beq_true, beq_false, Bool.false_eq_true]
      exact Fin.same hcl rfl ⟨rfl, rfl⟩
    · simp only [ac21, last_obj, List.length_map, d0, h0, ne_eq, not_false_eq_true, Option.map_some, Option.map_none, List.map_cons, List.map_nil, Bool.not_true, Bool.not_false, decide_true, decide_false, List.getElem?_cons_zero, List.getElem?_cons_succ, ↓aw1, ↓aw2, ↓aw17, aw3, aw4, aw5, aw6, aw7, aw8, aw9, aw10, aw11, aw12, aw13, aw14, aw15, aw16, aw19, Nat.reduceLeDiff, if_true, if_false, Nat.reduceEqDiff, Nat.reduceAdd, beq_self_eq_true, beq_true, beq_false, Bool.false_eq_true]
      have : l = [] := List.length_eq_zero_iff.1 (by simpa using h0)
      subst this
      exact Fin.same hcl rfl ⟨rfl, rfl⟩

theorem funnot_ev (f : Fun) (hf : f.name.size + wL f.body < 2 ^ 40) (h : List AObj) : EvR E0 19 [funv f] h (boolv (!okF f)) := by
  refine ev_of (fn := Tryd.f19) (hs := []) Tryd.func19 c19 (by simp) fun hcl => ?_
  simp only [ac19, funv, last_obj, List.drop_zero, List.drop_succ_cons, ne_eq, not_false_eq_true, Option.map_some, Option.map_none, List.map_cons, List.map_nil, Bool.not_true, Bool.not_false, decide_true, decide_false, List.getElem?_cons_zero, List.getElem?_cons_succ, ↓aw1, ↓aw2, ↓aw17, aw3, aw4, aw5, aw6, aw7, aw8, aw9, aw10, aw11, aw12, aw13, aw14, aw15, aw16, aw19, Nat.reduceLeDiff, if_true, if_false, Nat.reduceEqDiff, Nat.reduceAdd, beq_self_eq_true, beq_true, beq_false, Bool.false_eq_true]
  refine EvF.ret (function_ev f.name _ (by omega)) ?_
  cases m1 : isFn f.name
  · simp only [ne_eq, not_false_eq_true, Option.map_some, Option.map_none, List.map_cons, List.map_nil, Bool.not_true, Bool.not_false, decide_true, decide_false, List.getElem?_cons_zero, List.getElem?_cons_succ, ↓aw1, ↓aw2, ↓aw17, aw3, aw4, aw5, aw6, aw7, aw8, aw9, aw10, aw11, aw12, aw13, aw14, aw15, aw16, aw19, Nat.reduceLeDiff, if_true, if_false, Nat.reduceEqDiff, Nat.reduceAdd, beq_self_eq_true, beq_true, beq_false, Bool.false_eq_true]
    exact Fin.same hcl rfl ⟨by simp [okF, m1], rfl⟩
  · simp only [last_obj, List.drop_zero, List.drop_succ_cons, ne_eq, not_false_eq_true, Option.map_some, Option.map_none, List.map_cons, List.map_nil, Bool.not_true, Bool.not_false, decide_true, decide_false, List.getElem?_cons_zero, List.getElem?_cons_succ, ↓aw1, ↓aw2, ↓aw17, aw3, aw4, aw5, aw6, aw7, aw8, aw9, aw10, aw11, aw12, aw13, aw14, aw15, aw16, aw19, Nat.reduceLeDiff, if_true, if_false, Nat.reduceEqDiff, Nat.reduceAdd, beq_self_eq_true, beq_true, beq_false, Bool.false_eq_true]
    refine EvF.ret (body_ev 40 (by omega) f.body _ (by omega)) ?_
    simp only [ne_eq, not_false_eq_true, Option.map_some, Option.map_none, List.map_cons, List.map_nil, Bool.not_true, Bool.not_false, decide_true, decide_false, List.getElem?_cons_zero, List.getElem?_cons_succ, ↓aw1, ↓aw2, ↓aw17, aw3, aw4, aw5, aw6, aw7, aw8, aw9, aw10, aw11, aw12, aw13, aw14, aw15, aw16, aw19, Nat.reduceLeDiff, if_true, if_false, Nat.reduceEqDiff, Nat.reduceAdd, beq_self_eq_true, beq_true, beq_false, Bool.false_eq_true]
    exact Fin.same hcl rfl ⟨by simp [okF, m1], rfl⟩

theorem shaped_ev (l : List Fun) (hw : wF l < 2 ^ 40) (h : List AObj) : EvR E0 9 [funsv l] h (boolv (okFs l)) := by
  refine ev_of (fn := Tryd.f9) (hs := []) Tryd.func9 c9 (by simp) fun hcl => ?_
  have hlen := wF_len l
  have d0 : decide ((l.length : Int) ≤ 4096) = decide (l.length ≤ 4096) := by rw [decide_eq_decide]; omega
  cases h0 : decide (l.length ≤ 4096)
  · simp only [ac9, List.length_map, d0, h0, ne_eq, not_false_eq_true, Option.map_some, Option.map_none, List.map_cons, List.map_nil, Bool.not_true, Bool.not_false, decide_true, decide_false, List.getElem?_cons_zero, List.getElem?_cons_succ, ↓aw1, ↓aw2, ↓aw17, aw3, aw4, aw5, aw6, aw7, aw8, aw9, aw10, aw11, aw12, aw13, aw14, aw15, aw16, aw19, Nat.reduceLeDiff, if_true, if_false, Nat.reduceEqDiff, Nat.reduceAdd, beq_self_eq_true, beq_true, beq_false, Bool.false_eq_true]
    exact Fin.same0 hcl rfl ⟨by simp [okFs, h0], rfl⟩
  · simp only [ac9, List.length_map, d0, h0, ne_eq, not_false_eq_true, Option.map_some, Option.map_none, List.map_cons, List.map_nil, Bool.not_true, Bool.not_false, decide_true, decide_false, List.getElem?_cons_zero, List.getElem?_cons_succ, ↓aw1, ↓aw2, ↓aw17, aw3, aw4, aw5, aw6, aw7, aw8, aw9, aw10, aw11, aw12, aw13, aw14, aw15, aw16, aw19, Nat.reduceLeDiff, if_true, if_false, Nat.reduceEqDiff, Nat.reduceAdd, beq_self_eq_true, beq_true, beq_false, Bool.false_eq_true]
    refine EvF.ret (fun_any l 19 [] (fun f => !okF f) h (by omega) (fun f hf => funnot_ev f (by have := wF_mem hf; omega) h)) ?_
    simp only [ne_eq, not_false_eq_true, Option.map_some, Option.map_none, List.map_cons, List.map_nil, Bool.not_true, Bool.not_false, decide_true, decide_false, List.getElem?_cons_zero, List.getElem?_cons_succ, ↓aw1, ↓aw2, ↓aw17, aw3, aw4, aw5, aw6, aw7, aw8, aw9, aw10, aw11, aw12, aw13, aw14, aw15, aw16, aw19, Nat.reduceLeDiff, if_true, if_false, Nat.reduceEqDiff, Nat.reduceAdd, beq_self_eq_true, beq_true, beq_false, Bool.false_eq_true]
    exact Fin.same0 hcl rfl ⟨by simp [okFs, h0], rfl⟩
end Go.Abs.Fr
