/- Words: the reference says the same. -/
import Derived.Test.YtenhfnadhmjloaaDoorT7E
set_option linter.all false
namespace Go.Abs.T7
open Go Go.Abs Go.Proofs
set_option linter.unusedSimpArgs false

theorem pk_none {b : List UInt8} {n : Nat} (h : b.length ≤ n) : pk b n = 0 := by simp [pk, List.getElem?_eq_none h]

theorem wl_rl (b : List UInt8) : ∀ (f n f' : Nat), n ≤ b.length → b.length ≤ n + f → b.length < n + f' →
    ((wl (fun k => pk b k) f' n).2 && decide ((wl (fun k => pk b k) f' n).1 = b.length)) = decide (rl b f n = (b.length : Int))
  | f, n, 0, h1, h2, h3 => by omega
  | 0, n, f' + 1, h1, h2, h3 => by
    have hn : b.length ≤ n := by omega
    have hw : wl (fun k => pk b k) (f' + 1) n = (n, true) := by
      simp [wl, pk_none hn, show isLet 0 = false from rfl, show isDig 0 = false from rfl, show isC 45 0 = false from rfl]
    rw [hw]
    have e : n = b.length := by omega
    simp [rl, e]
  | f + 1, n, f' + 1, h1, h2, h3 => by
    by_cases hn : b.length ≤ n
    · have hw : wl (fun k => pk b k) (f' + 1) n = (n, true) := by
        simp [wl, pk_none hn, show isLet 0 = false from rfl, show isDig 0 = false from rfl, show isC 45 0 = false from rfl]
      rw [hw]
      have e : n = b.length := by omega
      simp [rl, e]
    · have ih := wl_rl b f (n + 1) f' (by omega) (by omega) (by omega)
      have hne : ¬ n = b.length := by omega
      have hne' : ¬ (n : Int) = (b.length : Int) := by omega
      simp only [wl, rl, if_neg hn]
      cases hl : isLet (pk b n)
      · cases hd : isDig (pk b n)
        · cases h45 : isC 45 (pk b n)
          · simp [hne, hne']
          · by_cases hn1 : n + 1 < b.length
            · have hne1 : ¬ n + 1 = b.length := by omega
              cases g45 : isC 45 (pk b (n + 1))
              · cases hld : isLet (pk b (n + 1))
                · cases hdd : isDig (pk b (n + 1))
                  · simp [hn1, hne1]
                  · simpa [hn1, hne1] using ih
                · simpa [hn1, hne1] using ih
              · simp [hn1, hne, hne']
            · have hz := pk_none (b := b) (n := n + 1) (by omega)
              have e : decide (n + 1 = b.length) = true := by simp; omega
              simp only [hz, hn1, e, show isLet 0 = false from rfl, show isDig 0 = false from rfl, show isC 45 0 = false from rfl]
              simp
        · simpa using ih
      · simpa using ih

theorem whl_rword (b : List UInt8) : whl b = (decide (0 < b.length) && decide (rword b = (b.length : Int))) := by
  unfold whl rword
  by_cases h0 : b.length = 0
  · have : b = [] := List.length_eq_zero_iff.1 h0
    subst this
    decide
  · rw [if_neg h0]
    have hp : 0 < b.length := by omega
    have := wl_rl b b.length 1 (b.length + 1) (by omega) (by omega) (by omega)
    cases hl : isLet (pk b 0)
    · simp
      intro _ h; omega
    · simp only [Bool.true_and, this]
      simp [hp]

theorem rupper_ev (s : ByteArray) (h : List AObj) (hsz : s.size < 2 ^ 60) : EvR E0 9 [.lit (.string s)] h (boolv (whl s.data.toList && lt97 (pk s.data.toList 0))) := by
  refine ev_of (fn := Tryd.f9) (hs := []) Tryd.func9 c9 (by simp) fun hcl => ?_
  have hlen : s.data.toList.length = s.size := by simp
  rw [whl_rword, hlen]
  simp only [ac9, ne_eq, not_false_eq_true, Option.map_some, Option.map_none, List.map_cons, List.map_nil, Bool.not_true, Bool.not_false, decide_true, decide_false, List.getElem?_cons_zero, List.getElem?_cons_succ, ↓aw1, ↓aw2, ↓aw17, aw3, aw4, aw5, aw6, aw7, aw8, aw9, aw10, aw11, aw12, aw13, aw14, aw15, aw16, Nat.reduceLeDiff, if_true, if_false, Nat.reduceEqDiff, Nat.reduceAdd, beq_self_eq_true, beq_true, beq_false, Bool.false_eq_true]
  by_cases h0 : s.size = 0
  · have e0 : decide ((0 : Int) < (s.size : Int)) = false := by simpa using h0
    simp only [e0, ne_eq, not_false_eq_true, Option.map_some, Option.map_none, List.map_cons, List.map_nil, Bool.not_true, Bool.not_false, decide_true, decide_false, List.getElem?_cons_zero, List.getElem?_cons_succ, ↓aw1, ↓aw2, ↓aw17, aw3, aw4, aw5, aw6, aw7, aw8, aw9, aw10, aw11, aw12, aw13, aw14, aw15, aw16, Nat.reduceLeDiff, if_true, if_false, Nat.reduceEqDiff, Nat.reduceAdd, beq_self_eq_true, beq_true, beq_false, Bool.false_eq_true]
    exact Fin.same0 hcl (by simp [AV.under]) ⟨by simp [h0], rfl⟩
  have e0 : decide ((0 : Int) < (s.size : Int)) = true := by simp; omega
  simp only [e0, ne_eq, not_false_eq_true, Option.map_some, Option.map_none, List.map_cons, List.map_nil, Bool.not_true, Bool.not_false, decide_true, decide_false, List.getElem?_cons_zero, List.getElem?_cons_succ, ↓aw1, ↓aw2, ↓aw17, aw3, aw4, aw5, aw6, aw7, aw8, aw9, aw10, aw11, aw12, aw13, aw14, aw15, aw16, Nat.reduceLeDiff, if_true, if_false, Nat.reduceEqDiff, Nat.reduceAdd, beq_self_eq_true, beq_true, beq_false, Bool.false_eq_true]
  refine EvF.ret (rword_ev s h hsz) ?_
  cases hw : decide (rword s.data.toList = (s.size : Int))
  · simp only [hw, ne_eq, not_false_eq_true, Option.map_some, Option.map_none, List.map_cons, List.map_nil, Bool.not_true, Bool.not_false, decide_true, decide_false, List.getElem?_cons_zero, List.getElem?_cons_succ, ↓aw1, ↓aw2, ↓aw17, aw3, aw4, aw5, aw6, aw7, aw8, aw9, aw10, aw11, aw12, aw13, aw14, aw15, aw16, Nat.reduceLeDiff, if_true, if_false, Nat.reduceEqDiff, Nat.reduceAdd, beq_self_eq_true, beq_true, beq_false, Bool.false_eq_true]
    exact Fin.same0 hcl (by simp [AV.under]) ⟨by simp, rfl⟩
  · simp only [hw, ne_eq, not_false_eq_true, Option.map_some, Option.map_none, List.map_cons, List.map_nil, Bool.not_true, Bool.not_false, decide_true, decide_false, List.getElem?_cons_zero, List.getElem?_cons_succ, ↓aw1, ↓aw2, ↓aw17, aw3, aw4, aw5, aw6, aw7, aw8, aw9, aw10, aw11, aw12, aw13, aw14, aw15, aw16, Nat.reduceLeDiff, if_true, if_false, Nat.reduceEqDiff, Nat.reduceAdd, beq_self_eq_true, beq_true, beq_false, Bool.false_eq_true]
    refine Need.mk (by omega) fun c hc => ?_
    simp only [ne_eq, not_false_eq_true, Option.map_some, Option.map_none, List.map_cons, List.map_nil, Bool.not_true, Bool.not_false, decide_true, decide_false, List.getElem?_cons_zero, List.getElem?_cons_succ, ↓aw1, ↓aw2, ↓aw17, aw3, aw4, aw5, aw6, aw7, aw8, aw9, aw10, aw11, aw12, aw13, aw14, aw15, aw16, Nat.reduceLeDiff, if_true, if_false, Nat.reduceEqDiff, Nat.reduceAdd, beq_self_eq_true, beq_true, beq_false, Bool.false_eq_true]
    have hp : pk s.data.toList 0 = c := by rw [bytes_get] at hc; exact pk_get hc
    refine Fin.same0 hcl (by simp [AV.under]) ⟨?_, rfl⟩
    rw [hp]
    have : 0 < s.size := by omega
    simp [lt97, this]

theorem rlower_ev (s : ByteArray) (h : List AObj) (hsz : s.size < 2 ^ 60) : EvR E0 11 [.lit (.string s)] h (boolv (whl s.data.toList && !lt97 (pk s.data.toList 0))) := by
  refine ev_of (fn := Tryd.f11) (hs := []) Tryd.func11 c11 (by simp) fun hcl => ?_
  have hlen : s.data.toList.length = s.size := by simp
  rw [whl_rword, hlen]
  simp only [ac11, ne_eq, not_false_eq_true, Option.map_some, Option.map_none, List.map_cons, List.map_nil, Bool.not_true, Bool.not_false, decide_true, decide_false, List.getElem?_cons_zero, List.getElem?_cons_succ, ↓aw1, ↓aw2, ↓aw17, aw3, aw4, aw5, aw6, aw7, aw8, aw9, aw10, aw11, aw12, aw13, aw14, aw15, aw16, Nat.reduceLeDiff, if_true, if_false, Nat.reduceEqDiff, Nat.reduceAdd, beq_self_eq_true, beq_true, beq_false, Bool.false_eq_true]
  by_cases h0 : s.size = 0
  · have e0 : decide ((0 : Int) < (s.size : Int)) = false := by simpa using h0
    simp only [e0, ne_eq, not_false_eq_true, Option.map_some, Option.map_none, List.map_cons, List.map_nil, Bool.not_true, Bool.not_false, decide_true, decide_false, List.getElem?_cons_zero, List.getElem?_cons_succ, ↓aw1, ↓aw2, ↓aw17, aw3, aw4, aw5, aw6, aw7, aw8, aw9, aw10, aw11, aw12, aw13, aw14, aw15, aw16, Nat.reduceLeDiff, if_true, if_false, Nat.reduceEqDiff, Nat.reduceAdd, beq_self_eq_true, beq_true, beq_false, Bool.false_eq_true]
    exact Fin.same0 hcl (by simp [AV.under]) ⟨by simp [h0], rfl⟩
  have e0 : decide ((0 : Int) < (s.size : Int)) = true := by simp; omega
  simp only [e0, ne_eq, not_false_eq_true, Option.map_some, Option.map_none, List.map_cons, List.map_nil, Bool.not_true, Bool.not_false, decide_true, decide_false, List.getElem?_cons_zero, List.getElem?_cons_succ, ↓aw1, ↓aw2, ↓aw17, aw3, aw4, aw5, aw6, aw7, aw8, aw9, aw10, aw11, aw12, aw13, aw14, aw15, aw16, Nat.reduceLeDiff, if_true, if_false, Nat.reduceEqDiff, Nat.reduceAdd, beq_self_eq_true, beq_true, beq_false, Bool.false_eq_true]
  refine EvF.ret (rword_ev s h hsz) ?_
  cases hw : decide (rword s.data.toList = (s.size : Int))
  · simp only [hw, ne_eq, not_false_eq_true, Option.map_some, Option.map_none, List.map_cons, List.map_nil, Bool.not_true, Bool.not_false, decide_true, decide_false, List.getElem?_cons_zero, List.getElem?_cons_succ, ↓aw1, ↓aw2, ↓aw17, aw3, aw4, aw5, aw6, aw7, aw8, aw9, aw10, aw11, aw12, aw13, aw14, aw15, aw16, Nat.reduceLeDiff, if_true, if_false, Nat.reduceEqDiff, Nat.reduceAdd, beq_self_eq_true, beq_true, beq_false, Bool.false_eq_true]
    exact Fin.same0 hcl (by simp [AV.under]) ⟨by simp, rfl⟩
  · simp only [hw, ne_eq, not_false_eq_true, Option.map_some, Option.map_none, List.map_cons, List.map_nil, Bool.not_true, Bool.not_false, decide_true, decide_false, List.getElem?_cons_zero, List.getElem?_cons_succ, ↓aw1, ↓aw2, ↓aw17, aw3, aw4, aw5, aw6, aw7, aw8, aw9, aw10, aw11, aw12, aw13, aw14, aw15, aw16, Nat.reduceLeDiff, if_true, if_false, Nat.reduceEqDiff, Nat.reduceAdd, beq_self_eq_true, beq_true, beq_false, Bool.false_eq_true]
    refine Need.mk (by omega) fun c hc => ?_
    simp only [ne_eq, not_false_eq_true, Option.map_some, Option.map_none, List.map_cons, List.map_nil, Bool.not_true, Bool.not_false, decide_true, decide_false, List.getElem?_cons_zero, List.getElem?_cons_succ, ↓aw1, ↓aw2, ↓aw17, aw3, aw4, aw5, aw6, aw7, aw8, aw9, aw10, aw11, aw12, aw13, aw14, aw15, aw16, Nat.reduceLeDiff, if_true, if_false, Nat.reduceEqDiff, Nat.reduceAdd, beq_self_eq_true, beq_true, beq_false, Bool.false_eq_true]
    have hp : pk s.data.toList 0 = c := by rw [bytes_get] at hc; exact pk_get hc
    refine Fin.same0 hcl (by simp [AV.under]) ⟨?_, rfl⟩
    rw [hp]
    have : 0 < s.size := by omega
    simp only [this, decide_true, Bool.true_and, lt97, boolv]
    congr 3
    rw [Bool.eq_iff_iff]
    simp
end Go.Abs.T7
