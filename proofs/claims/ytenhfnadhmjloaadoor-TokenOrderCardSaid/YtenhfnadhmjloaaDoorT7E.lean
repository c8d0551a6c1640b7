/- Whether a text is one word. -/
import Derived.Test.YtenhfnadhmjloaaDoorT7D
set_option linter.all false
namespace Go.Abs.T7
open Go Go.Abs Go.Proofs
set_option linter.unusedSimpArgs false

/-- Is a text one word? -/
def whl (b : List UInt8) : Bool := isLet (pk b 0) && (wl (fun k => pk b k) (b.length + 1) 1).2 && decide ((wl (fun k => pk b k) (b.length + 1) 1).1 = b.length)

theorem last_obj (h : List AObj) (o : AObj) : (h ++ [o])[h.length]? = some o := by simp

theorem whole_ev (s : ByteArray) (h : List AObj) (hsz : s.size < 2 ^ 60) : EvR E0 14 [.lit (.string s)] h (boolv (whl s.data.toList)) := by
  refine ev_of (fn := Tryd.f14) (hs := []) Tryd.func14 c14 (by simp) fun hcl => ?_
  have hlen : s.data.toList.length = s.size := by simp
  simp only [ac14, ne_eq, not_false_eq_true, Option.map_some, Option.map_none, List.map_cons, List.map_nil, Bool.not_true, Bool.not_false, decide_true, decide_false, List.getElem?_cons_zero, List.getElem?_cons_succ, ↓aw1, ↓aw2, ↓aw17, aw3, aw4, aw5, aw6, aw7, aw8, aw9, aw10, aw11, aw12, aw13, aw14, aw15, aw16, Nat.reduceLeDiff, if_true, if_false, Nat.reduceEqDiff, Nat.reduceAdd, beq_self_eq_true, beq_true, beq_false, Bool.false_eq_true]
  refine Need.mk (by omega) ?_
  simp only [ne_eq, not_false_eq_true, Option.map_some, Option.map_none, List.map_cons, List.map_nil, Bool.not_true, Bool.not_false, decide_true, decide_false, List.getElem?_cons_zero, List.getElem?_cons_succ, ↓aw1, ↓aw2, ↓aw17, aw3, aw4, aw5, aw6, aw7, aw8, aw9, aw10, aw11, aw12, aw13, aw14, aw15, aw16, Nat.reduceLeDiff, if_true, if_false, Nat.reduceEqDiff, Nat.reduceAdd, beq_self_eq_true, beq_true, beq_false, Bool.false_eq_true]
  have hs := last_obj h (txt s.data.toList 0)
  refine EvF.ret (peek_ev (k := 0) hs (by omega)) ?_
  simp only [ne_eq, not_false_eq_true, Option.map_some, Option.map_none, List.map_cons, List.map_nil, Bool.not_true, Bool.not_false, decide_true, decide_false, List.getElem?_cons_zero, List.getElem?_cons_succ, ↓aw1, ↓aw2, ↓aw17, aw3, aw4, aw5, aw6, aw7, aw8, aw9, aw10, aw11, aw12, aw13, aw14, aw15, aw16, Nat.reduceLeDiff, if_true, if_false, Nat.reduceEqDiff, Nat.reduceAdd, beq_self_eq_true, beq_true, beq_false, Bool.false_eq_true]
  refine EvF.ret (letter_ev _ _) ?_
  cases hl : isLet (pk s.data.toList (0 + 0))
  · simp only [ne_eq, not_false_eq_true, Option.map_some, Option.map_none, List.map_cons, List.map_nil, Bool.not_true, Bool.not_false, decide_true, decide_false, List.getElem?_cons_zero, List.getElem?_cons_succ, ↓aw1, ↓aw2, ↓aw17, aw3, aw4, aw5, aw6, aw7, aw8, aw9, aw10, aw11, aw12, aw13, aw14, aw15, aw16, Nat.reduceLeDiff, if_true, if_false, Nat.reduceEqDiff, Nat.reduceAdd, beq_self_eq_true, beq_true, beq_false, Bool.false_eq_true]
    have hl' : isLet (pk s.data.toList 0) = false := hl
    exact Fin.same hcl (by simp [AV.under]) ⟨by simp [whl, hl'], rfl⟩
  have hl' : isLet (pk s.data.toList 0) = true := hl
  simp only [ne_eq, not_false_eq_true, Option.map_some, Option.map_none, List.map_cons, List.map_nil, Bool.not_true, Bool.not_false, decide_true, decide_false, List.getElem?_cons_zero, List.getElem?_cons_succ, ↓aw1, ↓aw2, ↓aw17, aw3, aw4, aw5, aw6, aw7, aw8, aw9, aw10, aw11, aw12, aw13, aw14, aw15, aw16, Nat.reduceLeDiff, if_true, if_false, Nat.reduceEqDiff, Nat.reduceAdd, beq_self_eq_true, beq_true, beq_false, Bool.false_eq_true]
  refine EvF.ret (word_ev hs (by omega)) ?_
  have e0 : (fun k => pk s.data.toList (0 + k)) = (fun k => pk s.data.toList k) := by funext k; rw [Nat.zero_add]
  rw [e0, hlen]
  generalize hR : wl (fun k => pk s.data.toList k) (s.size + 1) 1 = R
  obtain ⟨n, ok⟩ := R
  cases ok
  · simp only [ne_eq, not_false_eq_true, Option.map_some, Option.map_none, List.map_cons, List.map_nil, Bool.not_true, Bool.not_false, decide_true, decide_false, List.getElem?_cons_zero, List.getElem?_cons_succ, ↓aw1, ↓aw2, ↓aw17, aw3, aw4, aw5, aw6, aw7, aw8, aw9, aw10, aw11, aw12, aw13, aw14, aw15, aw16, Nat.reduceLeDiff, if_true, if_false, Nat.reduceEqDiff, Nat.reduceAdd, beq_self_eq_true, beq_true, beq_false, Bool.false_eq_true]
    exact Fin.same hcl (by simp [AV.under]) ⟨by simp [whl, hl', hR], rfl⟩
  · simp only [ne_eq, not_false_eq_true, Option.map_some, Option.map_none, List.map_cons, List.map_nil, Bool.not_true, Bool.not_false, decide_true, decide_false, List.getElem?_cons_zero, List.getElem?_cons_succ, ↓aw1, ↓aw2, ↓aw17, aw3, aw4, aw5, aw6, aw7, aw8, aw9, aw10, aw11, aw12, aw13, aw14, aw15, aw16, Nat.reduceLeDiff, if_true, if_false, Nat.reduceEqDiff, Nat.reduceAdd, beq_self_eq_true, beq_true, beq_false, Bool.false_eq_true]
    refine Fin.same hcl (by simp [AV.under]) ⟨?_, rfl⟩
    simp only [whl, hl', hlen, hR, Bool.true_and, boolv]
    congr 4
    simp
    omega

/-- A text's first character. -/
def lt97 (c : UInt8) : Bool := decide ((c.toNat : Int) < 97)

theorem bytes_get (s : ByteArray) (i : Nat) : s[i]? = s.data.toList[i]? := by
  by_cases hi : i < s.size
  · rw [getElem?_pos s i hi]
    have : i < s.data.toList.length := by simpa using hi
    rw [List.getElem?_eq_getElem this]
    simp
    rfl
  · rw [getElem?_neg s i hi, List.getElem?_eq_none (by simpa using hi)]

theorem pos_of {s : ByteArray} (hw : whl s.data.toList = true) : (0 : Int) < (s.size : Int) := by
  rcases Nat.eq_zero_or_pos s.size with h0 | h0
  · have : s.data.toList = [] := List.length_eq_zero_iff.1 (by simpa using h0)
    rw [this] at hw
    exact absurd hw (by decide)
  · omega

theorem upper_ev (s : ByteArray) (h : List AObj) (hsz : s.size < 2 ^ 60) : EvR E0 8 [.lit (.string s)] h (boolv (whl s.data.toList && lt97 (pk s.data.toList 0))) := by
  refine ev_of (fn := Tryd.f8) (hs := []) Tryd.func8 c8 (by simp) fun hcl => ?_
  simp only [ac8, ne_eq, not_false_eq_true, Option.map_some, Option.map_none, List.map_cons, List.map_nil, Bool.not_true, Bool.not_false, decide_true, decide_false, List.getElem?_cons_zero, List.getElem?_cons_succ, ↓aw1, ↓aw2, ↓aw17, aw3, aw4, aw5, aw6, aw7, aw8, aw9, aw10, aw11, aw12, aw13, aw14, aw15, aw16, Nat.reduceLeDiff, if_true, if_false, Nat.reduceEqDiff, Nat.reduceAdd, beq_self_eq_true, beq_true, beq_false, Bool.false_eq_true]
  refine EvF.ret (whole_ev s h hsz) ?_
  cases hw : whl s.data.toList
  · simp only [ne_eq, not_false_eq_true, Option.map_some, Option.map_none, List.map_cons, List.map_nil, Bool.not_true, Bool.not_false, decide_true, decide_false, List.getElem?_cons_zero, List.getElem?_cons_succ, ↓aw1, ↓aw2, ↓aw17, aw3, aw4, aw5, aw6, aw7, aw8, aw9, aw10, aw11, aw12, aw13, aw14, aw15, aw16, Nat.reduceLeDiff, if_true, if_false, Nat.reduceEqDiff, Nat.reduceAdd, beq_self_eq_true, beq_true, beq_false, Bool.false_eq_true]
    exact Fin.same0 hcl (by simp [AV.under]) ⟨by simp, rfl⟩
  · simp only [ne_eq, not_false_eq_true, Option.map_some, Option.map_none, List.map_cons, List.map_nil, Bool.not_true, Bool.not_false, decide_true, decide_false, List.getElem?_cons_zero, List.getElem?_cons_succ, ↓aw1, ↓aw2, ↓aw17, aw3, aw4, aw5, aw6, aw7, aw8, aw9, aw10, aw11, aw12, aw13, aw14, aw15, aw16, Nat.reduceLeDiff, if_true, if_false, Nat.reduceEqDiff, Nat.reduceAdd, beq_self_eq_true, beq_true, beq_false, Bool.false_eq_true]
    refine Need.mk ⟨by omega, pos_of hw⟩ fun c hc => ?_
    simp only [ne_eq, not_false_eq_true, Option.map_some, Option.map_none, List.map_cons, List.map_nil, Bool.not_true, Bool.not_false, decide_true, decide_false, List.getElem?_cons_zero, List.getElem?_cons_succ, ↓aw1, ↓aw2, ↓aw17, aw3, aw4, aw5, aw6, aw7, aw8, aw9, aw10, aw11, aw12, aw13, aw14, aw15, aw16, Nat.reduceLeDiff, if_true, if_false, Nat.reduceEqDiff, Nat.reduceAdd, beq_self_eq_true, beq_true, beq_false, Bool.false_eq_true]
    have hp : pk s.data.toList 0 = c := by rw [bytes_get] at hc; simp only [pk]; rw [show s.data.toList[0]? = some c from hc]; rfl
    exact Fin.same0 hcl (by simp [AV.under]) ⟨by rw [hp]; simp [lt97], rfl⟩
theorem lower_ev (s : ByteArray) (h : List AObj) (hsz : s.size < 2 ^ 60) : EvR E0 10 [.lit (.string s)] h (boolv (whl s.data.toList && !lt97 (pk s.data.toList 0))) := by
  refine ev_of (fn := Tryd.f10) (hs := []) Tryd.func10 c10 (by simp) fun hcl => ?_
  simp only [ac10, ne_eq, not_false_eq_true, Option.map_some, Option.map_none, List.map_cons, List.map_nil, Bool.not_true, Bool.not_false, decide_true, decide_false, List.getElem?_cons_zero, List.getElem?_cons_succ, ↓aw1, ↓aw2, ↓aw17, aw3, aw4, aw5, aw6, aw7, aw8, aw9, aw10, aw11, aw12, aw13, aw14, aw15, aw16, Nat.reduceLeDiff, if_true, if_false, Nat.reduceEqDiff, Nat.reduceAdd, beq_self_eq_true, beq_true, beq_false, Bool.false_eq_true]
  refine EvF.ret (whole_ev s h hsz) ?_
  cases hw : whl s.data.toList
  · simp only [ne_eq, not_false_eq_true, Option.map_some, Option.map_none, List.map_cons, List.map_nil, Bool.not_true, Bool.not_false, decide_true, decide_false, List.getElem?_cons_zero, List.getElem?_cons_succ, ↓aw1, ↓aw2, ↓aw17, aw3, aw4, aw5, aw6, aw7, aw8, aw9, aw10, aw11, aw12, aw13, aw14, aw15, aw16, Nat.reduceLeDiff, if_true, if_false, Nat.reduceEqDiff, Nat.reduceAdd, beq_self_eq_true, beq_true, beq_false, Bool.false_eq_true]
    exact Fin.same0 hcl (by simp [AV.under]) ⟨by simp, rfl⟩
  · simp only [ne_eq, not_false_eq_true, Option.map_some, Option.map_none, List.map_cons, List.map_nil, Bool.not_true, Bool.not_false, decide_true, decide_false, List.getElem?_cons_zero, List.getElem?_cons_succ, ↓aw1, ↓aw2, ↓aw17, aw3, aw4, aw5, aw6, aw7, aw8, aw9, aw10, aw11, aw12, aw13, aw14, aw15, aw16, Nat.reduceLeDiff, if_true, if_false, Nat.reduceEqDiff, Nat.reduceAdd, beq_self_eq_true, beq_true, beq_false, Bool.false_eq_true]
    refine Need.mk ⟨by omega, pos_of hw⟩ fun c hc => ?_
    simp only [ne_eq, not_false_eq_true, Option.map_some, Option.map_none, List.map_cons, List.map_nil, Bool.not_true, Bool.not_false, decide_true, decide_false, List.getElem?_cons_zero, List.getElem?_cons_succ, ↓aw1, ↓aw2, ↓aw17, aw3, aw4, aw5, aw6, aw7, aw8, aw9, aw10, aw11, aw12, aw13, aw14, aw15, aw16, Nat.reduceLeDiff, if_true, if_false, Nat.reduceEqDiff, Nat.reduceAdd, beq_self_eq_true, beq_true, beq_false, Bool.false_eq_true]
    have hp : pk s.data.toList 0 = c := by rw [bytes_get] at hc; simp only [pk]; rw [show s.data.toList[0]? = some c from hc]; rfl
    refine Fin.same0 hcl (by simp [AV.under]) ⟨?_, rfl⟩
    rw [hp]
    simp only [lt97, Bool.true_and, boolv]
    congr 3
    rw [Bool.eq_iff_iff]
    simp

/-! ### The reference -/

theorem all_u8 {p : UInt8 → Bool} (h : (List.range 256).all (fun n => p (UInt8.ofNat n)) = true) (c : UInt8) : p c = true := by
  rw [List.all_eq_true] at h
  have := h c.toNat (by simp; exact c.toNat_lt)
  simpa using this

theorem rlet_eq (c : UInt8) : ((decide ((97 : Int) ≤ (c.toNat : Int)) && decide ((c.toNat : Int) ≤ 122)) || (decide ((65 : Int) ≤ (c.toNat : Int)) && decide ((c.toNat : Int) ≤ 90))) = isLet c := by
  have := all_u8 (p := fun c => ((decide ((97 : Int) ≤ (c.toNat : Int)) && decide ((c.toNat : Int) ≤ 122)) || (decide ((65 : Int) ≤ (c.toNat : Int)) && decide ((c.toNat : Int) ≤ 90))) == isLet c) (by decide +kernel) c
  simpa using this

theorem rletter_ev (c : UInt8) (h : List AObj) : EvR E0 21 [u8v c] h (boolv (isLet c)) := by
  refine ev_of (fn := Tryd.f21) (hs := []) Tryd.func21 c21 (by simp) fun hcl => ?_
  rw [← rlet_eq c]
  simp only [ac21, ne_eq, not_false_eq_true, Option.map_some, Option.map_none, List.map_cons, List.map_nil, Bool.not_true, Bool.not_false, decide_true, decide_false, List.getElem?_cons_zero, List.getElem?_cons_succ, ↓aw1, ↓aw2, ↓aw17, aw3, aw4, aw5, aw6, aw7, aw8, aw9, aw10, aw11, aw12, aw13, aw14, aw15, aw16, Nat.reduceLeDiff, if_true, if_false, Nat.reduceEqDiff, Nat.reduceAdd, beq_self_eq_true, beq_true, beq_false, Bool.false_eq_true]
  cases h1 : decide ((97 : Int) ≤ (c.toNat : Int)) <;> cases h2 : decide ((c.toNat : Int) ≤ 122) <;> cases h3 : decide ((65 : Int) ≤ (c.toNat : Int)) <;> cases h4 : decide ((c.toNat : Int) ≤ 90)
  all_goals simp only [h1, h2, h3, h4, ne_eq, not_false_eq_true, Option.map_some, Option.map_none, List.map_cons, List.map_nil, Bool.not_true, Bool.not_false, decide_true, decide_false, List.getElem?_cons_zero, List.getElem?_cons_succ, ↓aw1, ↓aw2, ↓aw17, aw3, aw4, aw5, aw6, aw7, aw8, aw9, aw10, aw11, aw12, aw13, aw14, aw15, aw16, Nat.reduceLeDiff, if_true, if_false, Nat.reduceEqDiff, Nat.reduceAdd, beq_self_eq_true, beq_true, beq_false, Bool.false_eq_true]
  all_goals exact Fin.same0 hcl (by simp [AV.under]) ⟨rfl, rfl⟩

theorem rdigit_ev (c : UInt8) (h : List AObj) : EvR E0 22 [u8v c] h (boolv (isDig c)) := by
  refine ev_of (fn := Tryd.f22) (hs := []) Tryd.func22 c22 (by simp) fun hcl => ?_
  simp only [ac22, ne_eq, not_false_eq_true, Option.map_some, Option.map_none, List.map_cons, List.map_nil, Bool.not_true, Bool.not_false, decide_true, decide_false, List.getElem?_cons_zero, List.getElem?_cons_succ, ↓aw1, ↓aw2, ↓aw17, aw3, aw4, aw5, aw6, aw7, aw8, aw9, aw10, aw11, aw12, aw13, aw14, aw15, aw16, Nat.reduceLeDiff, if_true, if_false, Nat.reduceEqDiff, Nat.reduceAdd, beq_self_eq_true, beq_true, beq_false, Bool.false_eq_true]
  refine BrF.mk (fun hb => ?_) (fun hb => ?_)
  all_goals simp only [hb, ne_eq, not_false_eq_true, Option.map_some, Option.map_none, List.map_cons, List.map_nil, Bool.not_true, Bool.not_false, decide_true, decide_false, List.getElem?_cons_zero, List.getElem?_cons_succ, ↓aw1, ↓aw2, ↓aw17, aw3, aw4, aw5, aw6, aw7, aw8, aw9, aw10, aw11, aw12, aw13, aw14, aw15, aw16, Nat.reduceLeDiff, if_true, if_false, Nat.reduceEqDiff, Nat.reduceAdd, beq_self_eq_true, beq_true, beq_false, Bool.false_eq_true]
  all_goals exact Fin.same0 hcl (by simp [AV.under]) ⟨by simp only [isDig, boolv, hb, Bool.true_and, Bool.false_and], rfl⟩

/-- The reference's word, from the n-th character on. -/
def rl (b : List UInt8) : Nat → Nat → Int
  | 0, n => n
  | f + 1, n =>
    if b.length ≤ n then n
    else if isLet (pk b n) || isDig (pk b n) then rl b f (n + 1)
    else if !isC 45 (pk b n) || (decide (n + 1 < b.length) && isC 45 (pk b (n + 1))) then n
    else if decide (n + 1 = b.length) || (!isLet (pk b (n + 1)) && !isDig (pk b (n + 1))) then -1
    else rl b f (n + 1)

def rword (b : List UInt8) : Int := if b.length = 0 then 0 else if !isLet (pk b 0) then 0 else rl b b.length 1

theorem pk_get {b : List UInt8} {n : Nat} {c : UInt8} (h : b[n]? = some c) : pk b n = c := by simp [pk, h]

theorem rword_ev (s : ByteArray) (h : List AObj) (hsz : s.size < 2 ^ 60) : EvR E0 15 [.lit (.string s)] h (i64 (rword s.data.toList)) := by
  refine ev_of (fn := Tryd.f15) (hs := []) Tryd.func15 c15 (by simp) fun hcl => ?_
  generalize hb : s.data.toList = b
  have hlen : b.length = s.size := by rw [← hb]; simp
  have hget : ∀ i, s[i]? = b[i]? := fun i => by rw [bytes_get, hb]
  by_cases h0 : s.size = 0
  · have e0 : decide ((s.size : Int) = 0) = true := by simpa using h0
    simp only [ac15, e0, ne_eq, not_false_eq_true, Option.map_some, Option.map_none, List.map_cons, List.map_nil, Bool.not_true, Bool.not_false, decide_true, decide_false, List.getElem?_cons_zero, List.getElem?_cons_succ, ↓aw1, ↓aw2, ↓aw17, aw3, aw4, aw5, aw6, aw7, aw8, aw9, aw10, aw11, aw12, aw13, aw14, aw15, aw16, Nat.reduceLeDiff, if_true, if_false, Nat.reduceEqDiff, Nat.reduceAdd, beq_self_eq_true, beq_true, beq_false, Bool.false_eq_true]
    exact Fin.same0 hcl (by simp [AV.under]) ⟨by simp only [rword]; rw [if_pos (by omega)], rfl⟩
  have e0 : decide ((s.size : Int) = 0) = false := by simpa using h0
  simp only [ac15, e0, ne_eq, not_false_eq_true, Option.map_some, Option.map_none, List.map_cons, List.map_nil, Bool.not_true, Bool.not_false, decide_true, decide_false, List.getElem?_cons_zero, List.getElem?_cons_succ, ↓aw1, ↓aw2, ↓aw17, aw3, aw4, aw5, aw6, aw7, aw8, aw9, aw10, aw11, aw12, aw13, aw14, aw15, aw16, Nat.reduceLeDiff, if_true, if_false, Nat.reduceEqDiff, Nat.reduceAdd, beq_self_eq_true, beq_true, beq_false, Bool.false_eq_true]
  refine Need.mk (by omega) fun c hc => ?_
  rw [hget] at hc
  have hpc := pk_get hc
  simp only [ne_eq, not_false_eq_true, Option.map_some, Option.map_none, List.map_cons, List.map_nil, Bool.not_true, Bool.not_false, decide_true, decide_false, List.getElem?_cons_zero, List.getElem?_cons_succ, ↓aw1, ↓aw2, ↓aw17, aw3, aw4, aw5, aw6, aw7, aw8, aw9, aw10, aw11, aw12, aw13, aw14, aw15, aw16, Nat.reduceLeDiff, if_true, if_false, Nat.reduceEqDiff, Nat.reduceAdd, beq_self_eq_true, beq_true, beq_false, Bool.false_eq_true]
  refine EvF.ret (rletter_ev c h) ?_
  cases hl : isLet c
  · simp only [ne_eq, not_false_eq_true, Option.map_some, Option.map_none, List.map_cons, List.map_nil, Bool.not_true, Bool.not_false, decide_true, decide_false, List.getElem?_cons_zero, List.getElem?_cons_succ, ↓aw1, ↓aw2, ↓aw17, aw3, aw4, aw5, aw6, aw7, aw8, aw9, aw10, aw11, aw12, aw13, aw14, aw15, aw16, Nat.reduceLeDiff, if_true, if_false, Nat.reduceEqDiff, Nat.reduceAdd, beq_self_eq_true, beq_true, beq_false, Bool.false_eq_true]
    exact Fin.same0 hcl (by simp [AV.under]) ⟨by simp only [rword]; rw [if_neg (by omega), show pk b 0 = c from hpc, hl]; rfl, rfl⟩
  generalize hR : rword b = R
  have hR0 : rl b b.length 1 = R := by rw [← hR, rword, if_neg (by omega), show pk b 0 = c from hpc, hl]; rfl
  simp only [ne_eq, not_false_eq_true, Option.map_some, Option.map_none, List.map_cons, List.map_nil, Bool.not_true, Bool.not_false, decide_true, decide_false, List.getElem?_cons_zero, List.getElem?_cons_succ, ↓aw1, ↓aw2, ↓aw17, aw3, aw4, aw5, aw6, aw7, aw8, aw9, aw10, aw11, aw12, aw13, aw14, aw15, aw16, Nat.reduceLeDiff, if_true, if_false, Nat.reduceEqDiff, Nat.reduceAdd, beq_self_eq_true, beq_true, beq_false, Bool.false_eq_true]
  refine LoopF.by (α := Nat × Nat) (fun x => ⟨[(0, .lit (.string s)), (3, i64 x.1)], h⟩) (fun x => x.2)
    (fun x => b.length ≤ x.1 + x.2 ∧ x.1 ≤ b.length ∧ rl b x.2 x.1 = R)
    (1, b.length) ⟨by simp, by simp; omega, hR0⟩ (weak_of rfl (by simp [look])) ?_
  rintro ⟨n, f⟩ ⟨h1, h2, h3⟩
  simp only at h1 h2 h3
  by_cases hn : b.length ≤ n
  · have e1 : decide ((n : Int) < (s.size : Int)) = false := by simp; omega
    simp only [e1, ne_eq, not_false_eq_true, Option.map_some, Option.map_none, List.map_cons, List.map_nil, Bool.not_true, Bool.not_false, decide_true, decide_false, List.getElem?_cons_zero, List.getElem?_cons_succ, ↓aw1, ↓aw2, ↓aw17, aw3, aw4, aw5, aw6, aw7, aw8, aw9, aw10, aw11, aw12, aw13, aw14, aw15, aw16, Nat.reduceLeDiff, if_true, if_false, Nat.reduceEqDiff, Nat.reduceAdd, beq_self_eq_true, beq_true, beq_false, Bool.false_eq_true]
    refine Fin.same0 hcl (by simp [AV.under]) ⟨?_, rfl⟩
    have : rl b f n = n := by cases f <;> simp [rl, hn]
    rw [← h3, this]
  obtain ⟨f, rfl⟩ : ∃ f', f = f' + 1 := ⟨f - 1, by omega⟩
  have e1 : decide ((n : Int) < (s.size : Int)) = true := by simp; omega
  have hw : IntKind.i64.wrap ((n : Int) + 1) = ((n + 1 : Nat) : Int) := by rw [wrap_i64] <;> omega
  simp only [rl, if_neg hn] at h3
  simp only [e1, ne_eq, not_false_eq_true, Option.map_some, Option.map_none, List.map_cons, List.map_nil, Bool.not_true, Bool.not_false, decide_true, decide_false, List.getElem?_cons_zero, List.getElem?_cons_succ, ↓aw1, ↓aw2, ↓aw17, aw3, aw4, aw5, aw6, aw7, aw8, aw9, aw10, aw11, aw12, aw13, aw14, aw15, aw16, Nat.reduceLeDiff, if_true, if_false, Nat.reduceEqDiff, Nat.reduceAdd, beq_self_eq_true, beq_true, beq_false, Bool.false_eq_true]
  refine Need.mk (by omega) fun c hc => ?_
  rw [hget, Int.toNat_natCast] at hc
  have hpc := pk_get hc
  simp only [hpc] at h3
  have again : ∀ σ, σ.heap = h → (∀ p, p ∈ [(0, AV.lit (.string s)), (3, i64 ((n + 1 : Nat) : Int))] → look σ.tmps p.1 = p.2) → rl b f (n + 1) = R →
      ∃ y : Nat × Nat, (b.length ≤ y.1 + y.2 ∧ y.1 ≤ b.length ∧ rl b y.2 y.1 = R) ∧ y.2 < f + 1 ∧ Weak σ ⟨[(0, .lit (.string s)), (3, i64 y.1)], h⟩ :=
    fun σ hh hl hr => ⟨(n + 1, f), ⟨by simp; omega, by simp; omega, hr⟩, by simp, weak_of hh.symm hl⟩
  simp only [ne_eq, not_false_eq_true, Option.map_some, Option.map_none, List.map_cons, List.map_nil, Bool.not_true, Bool.not_false, decide_true, decide_false, List.getElem?_cons_zero, List.getElem?_cons_succ, ↓aw1, ↓aw2, ↓aw17, aw3, aw4, aw5, aw6, aw7, aw8, aw9, aw10, aw11, aw12, aw13, aw14, aw15, aw16, Nat.reduceLeDiff, if_true, if_false, Nat.reduceEqDiff, Nat.reduceAdd, beq_self_eq_true, beq_true, beq_false, Bool.false_eq_true]
  refine EvF.ret (rletter_ev c h) ?_
  cases hl : isLet c
  · simp only [ne_eq, not_false_eq_true, Option.map_some, Option.map_none, List.map_cons, List.map_nil, Bool.not_true, Bool.not_false, decide_true, decide_false, List.getElem?_cons_zero, List.getElem?_cons_succ, ↓aw1, ↓aw2, ↓aw17, aw3, aw4, aw5, aw6, aw7, aw8, aw9, aw10, aw11, aw12, aw13, aw14, aw15, aw16, Nat.reduceLeDiff, if_true, if_false, Nat.reduceEqDiff, Nat.reduceAdd, beq_self_eq_true, beq_true, beq_false, Bool.false_eq_true]
    refine Need.mk (by omega) fun c' hc' => ?_
    rw [hget, Int.toNat_natCast, hc] at hc'
    cases hc'
    simp only [ne_eq, not_false_eq_true, Option.map_some, Option.map_none, List.map_cons, List.map_nil, Bool.not_true, Bool.not_false, decide_true, decide_false, List.getElem?_cons_zero, List.getElem?_cons_succ, ↓aw1, ↓aw2, ↓aw17, aw3, aw4, aw5, aw6, aw7, aw8, aw9, aw10, aw11, aw12, aw13, aw14, aw15, aw16, Nat.reduceLeDiff, if_true, if_false, Nat.reduceEqDiff, Nat.reduceAdd, beq_self_eq_true, beq_true, beq_false, Bool.false_eq_true]
    refine EvF.ret (rdigit_ev c h) ?_
    cases hd : isDig c
    · simp only [ne_eq, not_false_eq_true, Option.map_some, Option.map_none, List.map_cons, List.map_nil, Bool.not_true, Bool.not_false, decide_true, decide_false, List.getElem?_cons_zero, List.getElem?_cons_succ, ↓aw1, ↓aw2, ↓aw17, aw3, aw4, aw5, aw6, aw7, aw8, aw9, aw10, aw11, aw12, aw13, aw14, aw15, aw16, Nat.reduceLeDiff, if_true, if_false, Nat.reduceEqDiff, Nat.reduceAdd, beq_self_eq_true, beq_true, beq_false, Bool.false_eq_true]
      refine Need.mk (by omega) fun c' hc' => ?_
      rw [hget, Int.toNat_natCast, hc] at hc'
      cases hc'
      simp only [ne_eq, not_false_eq_true, Option.map_some, Option.map_none, List.map_cons, List.map_nil, Bool.not_true, Bool.not_false, decide_true, decide_false, List.getElem?_cons_zero, List.getElem?_cons_succ, ↓aw1, ↓aw2, ↓aw17, aw3, aw4, aw5, aw6, aw7, aw8, aw9, aw10, aw11, aw12, aw13, aw14, aw15, aw16, Nat.reduceLeDiff, if_true, if_false, Nat.reduceEqDiff, Nat.reduceAdd, beq_self_eq_true, beq_true, beq_false, Bool.false_eq_true]
      cases h45 : isC 45 c
      · have h45' : decide ((c.toNat : Int) = 45) = false := h45
        simp only [h45', ne_eq, not_false_eq_true, Option.map_some, Option.map_none, List.map_cons, List.map_nil, Bool.not_true, Bool.not_false, decide_true, decide_false, List.getElem?_cons_zero, List.getElem?_cons_succ, ↓aw1, ↓aw2, ↓aw17, aw3, aw4, aw5, aw6, aw7, aw8, aw9, aw10, aw11, aw12, aw13, aw14, aw15, aw16, Nat.reduceLeDiff, if_true, if_false, Nat.reduceEqDiff, Nat.reduceAdd, beq_self_eq_true, beq_true, beq_false, Bool.false_eq_true]
        simp [hl, hd, h45] at h3
        exact Fin.same0 hcl (by simp [AV.under]) ⟨by rw [← h3], rfl⟩
      · have h45' : decide ((c.toNat : Int) = 45) = true := h45
        simp only [h45', hw, ne_eq, not_false_eq_true, Option.map_some, Option.map_none, List.map_cons, List.map_nil, Bool.not_true, Bool.not_false, decide_true, decide_false, List.getElem?_cons_zero, List.getElem?_cons_succ, ↓aw1, ↓aw2, ↓aw17, aw3, aw4, aw5, aw6, aw7, aw8, aw9, aw10, aw11, aw12, aw13, aw14, aw15, aw16, Nat.reduceLeDiff, if_true, if_false, Nat.reduceEqDiff, Nat.reduceAdd, beq_self_eq_true, beq_true, beq_false, Bool.false_eq_true]
        by_cases hn1 : n + 1 < b.length
        · have e2 : decide (((n + 1 : Nat) : Int) < (s.size : Int)) = true := by simp; omega
          have e3 : decide (((n + 1 : Nat) : Int) = (s.size : Int)) = false := by simp; omega
          simp only [e2, hw, ne_eq, not_false_eq_true, Option.map_some, Option.map_none, List.map_cons, List.map_nil, Bool.not_true, Bool.not_false, decide_true, decide_false, List.getElem?_cons_zero, List.getElem?_cons_succ, ↓aw1, ↓aw2, ↓aw17, aw3, aw4, aw5, aw6, aw7, aw8, aw9, aw10, aw11, aw12, aw13, aw14, aw15, aw16, Nat.reduceLeDiff, if_true, if_false, Nat.reduceEqDiff, Nat.reduceAdd, beq_self_eq_true, beq_true, beq_false, Bool.false_eq_true]
          refine Need.mk (by omega) fun d hd' => ?_
          rw [hget, Int.toNat_natCast] at hd'
          have hpd := pk_get hd'
          simp only [hpd] at h3
          simp only [ne_eq, not_false_eq_true, Option.map_some, Option.map_none, List.map_cons, List.map_nil, Bool.not_true, Bool.not_false, decide_true, decide_false, List.getElem?_cons_zero, List.getElem?_cons_succ, ↓aw1, ↓aw2, ↓aw17, aw3, aw4, aw5, aw6, aw7, aw8, aw9, aw10, aw11, aw12, aw13, aw14, aw15, aw16, Nat.reduceLeDiff, if_true, if_false, Nat.reduceEqDiff, Nat.reduceAdd, beq_self_eq_true, beq_true, beq_false, Bool.false_eq_true]
          cases g45 : isC 45 d
          · have g45' : decide ((d.toNat : Int) = 45) = false := g45
            simp only [g45', hw, e3, ne_eq, not_false_eq_true, Option.map_some, Option.map_none, List.map_cons, List.map_nil, Bool.not_true, Bool.not_false, decide_true, decide_false, List.getElem?_cons_zero, List.getElem?_cons_succ, ↓aw1, ↓aw2, ↓aw17, aw3, aw4, aw5, aw6, aw7, aw8, aw9, aw10, aw11, aw12, aw13, aw14, aw15, aw16, Nat.reduceLeDiff, if_true, if_false, Nat.reduceEqDiff, Nat.reduceAdd, beq_self_eq_true, beq_true, beq_false, Bool.false_eq_true]
            refine Need.mk (by omega) fun d2 hd2 => ?_
            rw [hget, Int.toNat_natCast, hd'] at hd2
            cases hd2
            simp only [ne_eq, not_false_eq_true, Option.map_some, Option.map_none, List.map_cons, List.map_nil, Bool.not_true, Bool.not_false, decide_true, decide_false, List.getElem?_cons_zero, List.getElem?_cons_succ, ↓aw1, ↓aw2, ↓aw17, aw3, aw4, aw5, aw6, aw7, aw8, aw9, aw10, aw11, aw12, aw13, aw14, aw15, aw16, Nat.reduceLeDiff, if_true, if_false, Nat.reduceEqDiff, Nat.reduceAdd, beq_self_eq_true, beq_true, beq_false, Bool.false_eq_true]
            refine EvF.ret (rletter_ev d h) ?_
            have hne : ¬ n + 1 = b.length := by omega
            cases hld : isLet d
            · simp only [hw, ne_eq, not_false_eq_true, Option.map_some, Option.map_none, List.map_cons, List.map_nil, Bool.not_true, Bool.not_false, decide_true, decide_false, List.getElem?_cons_zero, List.getElem?_cons_succ, ↓aw1, ↓aw2, ↓aw17, aw3, aw4, aw5, aw6, aw7, aw8, aw9, aw10, aw11, aw12, aw13, aw14, aw15, aw16, Nat.reduceLeDiff, if_true, if_false, Nat.reduceEqDiff, Nat.reduceAdd, beq_self_eq_true, beq_true, beq_false, Bool.false_eq_true]
              refine Need.mk (by omega) fun d2 hd2 => ?_
              rw [hget, Int.toNat_natCast, hd'] at hd2
              cases hd2
              simp only [ne_eq, not_false_eq_true, Option.map_some, Option.map_none, List.map_cons, List.map_nil, Bool.not_true, Bool.not_false, decide_true, decide_false, List.getElem?_cons_zero, List.getElem?_cons_succ, ↓aw1, ↓aw2, ↓aw17, aw3, aw4, aw5, aw6, aw7, aw8, aw9, aw10, aw11, aw12, aw13, aw14, aw15, aw16, Nat.reduceLeDiff, if_true, if_false, Nat.reduceEqDiff, Nat.reduceAdd, beq_self_eq_true, beq_true, beq_false, Bool.false_eq_true]
              refine EvF.ret (rdigit_ev d h) ?_
              cases hdd : isDig d
              · simp only [ne_eq, not_false_eq_true, Option.map_some, Option.map_none, List.map_cons, List.map_nil, Bool.not_true, Bool.not_false, decide_true, decide_false, List.getElem?_cons_zero, List.getElem?_cons_succ, ↓aw1, ↓aw2, ↓aw17, aw3, aw4, aw5, aw6, aw7, aw8, aw9, aw10, aw11, aw12, aw13, aw14, aw15, aw16, Nat.reduceLeDiff, if_true, if_false, Nat.reduceEqDiff, Nat.reduceAdd, beq_self_eq_true, beq_true, beq_false, Bool.false_eq_true]
                simp [hl, hd, h45, hn1, g45, hld, hdd] at h3
                exact Fin.same0 hcl (by simp [AV.under]) ⟨by rw [← h3], rfl⟩
              · simp only [hw, ne_eq, not_false_eq_true, Option.map_some, Option.map_none, List.map_cons, List.map_nil, Bool.not_true, Bool.not_false, decide_true, decide_false, List.getElem?_cons_zero, List.getElem?_cons_succ, ↓aw1, ↓aw2, ↓aw17, aw3, aw4, aw5, aw6, aw7, aw8, aw9, aw10, aw11, aw12, aw13, aw14, aw15, aw16, Nat.reduceLeDiff, if_true, if_false, Nat.reduceEqDiff, Nat.reduceAdd, beq_self_eq_true, beq_true, beq_false, Bool.false_eq_true]
                simp [hl, hd, h45, hn1, g45, hld, hdd, hne] at h3
                exact again _ rfl (by simp [look]) h3
            · simp only [hw, ne_eq, not_false_eq_true, Option.map_some, Option.map_none, List.map_cons, List.map_nil, Bool.not_true, Bool.not_false, decide_true, decide_false, List.getElem?_cons_zero, List.getElem?_cons_succ, ↓aw1, ↓aw2, ↓aw17, aw3, aw4, aw5, aw6, aw7, aw8, aw9, aw10, aw11, aw12, aw13, aw14, aw15, aw16, Nat.reduceLeDiff, if_true, if_false, Nat.reduceEqDiff, Nat.reduceAdd, beq_self_eq_true, beq_true, beq_false, Bool.false_eq_true]
              simp [hl, hd, h45, hn1, g45, hld, hne] at h3
              exact again _ rfl (by simp [look]) h3
          · have g45' : decide ((d.toNat : Int) = 45) = true := g45
            simp only [g45', ne_eq, not_false_eq_true, Option.map_some, Option.map_none, List.map_cons, List.map_nil, Bool.not_true, Bool.not_false, decide_true, decide_false, List.getElem?_cons_zero, List.getElem?_cons_succ, ↓aw1, ↓aw2, ↓aw17, aw3, aw4, aw5, aw6, aw7, aw8, aw9, aw10, aw11, aw12, aw13, aw14, aw15, aw16, Nat.reduceLeDiff, if_true, if_false, Nat.reduceEqDiff, Nat.reduceAdd, beq_self_eq_true, beq_true, beq_false, Bool.false_eq_true]
            simp [hl, hd, h45, hn1, g45] at h3
            exact Fin.same0 hcl (by simp [AV.under]) ⟨by rw [← h3], rfl⟩
        · have e2 : decide (((n + 1 : Nat) : Int) < (s.size : Int)) = false := by simp; omega
          have e3 : decide (((n + 1 : Nat) : Int) = (s.size : Int)) = true := by simp; omega
          simp only [e2, e3, hw, ne_eq, not_false_eq_true, Option.map_some, Option.map_none, List.map_cons, List.map_nil, Bool.not_true, Bool.not_false, decide_true, decide_false, List.getElem?_cons_zero, List.getElem?_cons_succ, ↓aw1, ↓aw2, ↓aw17, aw3, aw4, aw5, aw6, aw7, aw8, aw9, aw10, aw11, aw12, aw13, aw14, aw15, aw16, Nat.reduceLeDiff, if_true, if_false, Nat.reduceEqDiff, Nat.reduceAdd, beq_self_eq_true, beq_true, beq_false, Bool.false_eq_true]
          have hne : n + 1 = b.length := by omega
          simp [hl, hd, h45, hne] at h3
          exact Fin.same0 hcl (by simp [AV.under]) ⟨by rw [← h3], rfl⟩
    · simp only [hw, ne_eq, not_false_eq_true, Option.map_some, Option.map_none, List.map_cons, List.map_nil, Bool.not_true, Bool.not_false, decide_true, decide_false, List.getElem?_cons_zero, List.getElem?_cons_succ, ↓aw1, ↓aw2, ↓aw17, aw3, aw4, aw5, aw6, aw7, aw8, aw9, aw10, aw11, aw12, aw13, aw14, aw15, aw16, Nat.reduceLeDiff, if_true, if_false, Nat.reduceEqDiff, Nat.reduceAdd, beq_self_eq_true, beq_true, beq_false, Bool.false_eq_true]
      simp [hl, hd] at h3
      exact again _ rfl (by simp [look]) h3
  · simp only [hw, ne_eq, not_false_eq_true, Option.map_some, Option.map_none, List.map_cons, List.map_nil, Bool.not_true, Bool.not_false, decide_true, decide_false, List.getElem?_cons_zero, List.getElem?_cons_succ, ↓aw1, ↓aw2, ↓aw17, aw3, aw4, aw5, aw6, aw7, aw8, aw9, aw10, aw11, aw12, aw13, aw14, aw15, aw16, Nat.reduceLeDiff, if_true, if_false, Nat.reduceEqDiff, Nat.reduceAdd, beq_self_eq_true, beq_true, beq_false, Bool.false_eq_true]
    simp [hl] at h3
    exact again _ rfl (by simp [look]) h3
end Go.Abs.T7
