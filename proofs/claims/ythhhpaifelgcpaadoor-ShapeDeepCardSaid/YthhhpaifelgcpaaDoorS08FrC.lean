/- The resolved code of the program's functions. -/
import Derived.Test.YthhhpaifelgcpaaDoorAbsK1
import Derived.Test.YthhhpaifelgcpaaDoorProg
import Derived.KernelRfl
import Derived.Lib.ItoaNum
set_option linter.all false
namespace Go.Abs.Fr
open Go Go.Abs Go.Proofs
set_option maxRecDepth 100000

def gl18 : Nat → Option (List AV) := fun i => if i = 3 then some (Lib.pow10Tab.map fun z => AV.lit (.int .u64 z)) else none
noncomputable def E0 : Env := ⟨Tryd.prog, gl18⟩

end Go.Abs.Fr

namespace Go.Abs.Fr
open Go Go.Abs Go.Proofs
set_option linter.unusedSimpArgs false
set_option maxRecDepth 100000

/-- spandrel/token.letter -/
def ac70 : ACode := (.seq (.region [⟨(some 2), (.move (.const (.bool false))), none⟩]) (.seq (.region [⟨(some 3), (.move (.tmp 0)), none⟩, ⟨(some 4), (.bin .or (.tmp 3) (.const (.int .u8 32))), none⟩, ⟨(some 5), (.bin .leq (.const (.int .u8 97)) (.tmp 4)), none⟩, ⟨(some 6), (.move (.tmp 5)), none⟩, ⟨(some 7), (.move (.tmp 0)), (some (6, true))⟩, ⟨(some 8), (.bin .or (.tmp 7) (.const (.int .u8 32))), (some (6, true))⟩, ⟨(some 9), (.bin .leq (.tmp 8) (.const (.int .u8 122))), (some (6, true))⟩, ⟨(some 10), (.pick (.tmp 6) (.tmp 9) (.const (.bool false))), none⟩, ⟨(some 2), (.move (.tmp 10)), none⟩]) .ret))
theorem c70 : cfn E0.P [] Tryd.f70 = some (ac70, [(.tmp 2)], 11) := by kernel_rfl
/-- (*spandrel/token.text).peek -/
def ac71 : ACode := (.seq (.region [⟨(some 4), (.move (.const (.int .u8 0))), none⟩]) (.seq (.seq (.draw [⟨(some 5), (.move (.tmp 0)), none⟩, ⟨(some 6), (.nilCheck (.tmp 5)), none⟩, ⟨(some 7), (.fieldAddr 1 (.tmp 6)), none⟩, ⟨(some 8), (.load none (.tmp 7)), none⟩, ⟨(some 9), (.move (.tmp 1)), none⟩, ⟨(some 10), (.bin .add (.tmp 8) (.tmp 9)), none⟩, ⟨(some 11), (.move (.tmp 0)), none⟩, ⟨(some 12), (.nilCheck (.tmp 11)), none⟩, ⟨(some 13), (.fieldAddr 0 (.tmp 12)), none⟩, ⟨(some 14), (.load none (.tmp 13)), none⟩, ⟨(some 15), (.len false (.tmp 14)), none⟩, ⟨(some 16), (.bin .geq (.tmp 10) (.tmp 15)), none⟩]) (.cond (.tmp 16) (.seq (.region [⟨(some 4), (.move (.const (.int .u8 0))), none⟩]) .ret) .skip)) (.seq (.draw [⟨(some 17), (.move (.tmp 0)), none⟩, ⟨(some 18), (.nilCheck (.tmp 17)), none⟩, ⟨(some 19), (.fieldAddr 0 (.tmp 18)), none⟩, ⟨(some 20), (.load none (.tmp 19)), none⟩, ⟨(some 21), (.move (.tmp 0)), none⟩, ⟨(some 22), (.nilCheck (.tmp 21)), none⟩, ⟨(some 23), (.fieldAddr 1 (.tmp 22)), none⟩, ⟨(some 24), (.load none (.tmp 23)), none⟩, ⟨(some 25), (.move (.tmp 1)), none⟩, ⟨(some 26), (.bin .add (.tmp 24) (.tmp 25)), none⟩, ⟨(some 27), (.indexAddr 1 (.tmp 20) (.tmp 26)), none⟩, ⟨(some 28), (.load none (.tmp 27)), none⟩, ⟨(some 4), (.move (.tmp 28)), none⟩]) .ret)))
theorem c71 : cfn E0.P [] Tryd.f71 = some (ac71, [(.tmp 4)], 29) := by kernel_rfl
/-- (*spandrel/token.scanner).word -/
def ac72 : ACode := (.seq (.region [⟨(some 2), (.move (.const (.int .i64 0))), none⟩, ⟨(some 3), (.move (.const (.bool false))), none⟩]) (.seq (.region [⟨(some 4), (.move (.const (.int .i64 1))), none⟩]) (.block 0 (.loop (.block 1 (.seq (.draw [⟨(some 7), (.move (.tmp 0)), none⟩, ⟨(some 8), (.nilCheck (.tmp 7)), none⟩, ⟨(some 9), (.fieldAddr 0 (.tmp 8)), none⟩, ⟨(some 10), (.move (.tmp 4)), none⟩, ⟨(some 11), (.call (.func 71) [((.tmp 9), false), ((.tmp 10), false)]), none⟩, ⟨(some 12), (.move (.tmp 0)), none⟩, ⟨(some 13), (.nilCheck (.tmp 12)), none⟩, ⟨(some 14), (.fieldAddr 0 (.tmp 13)), none⟩, ⟨(some 15), (.move (.tmp 4)), none⟩, ⟨(some 16), (.bin .add (.tmp 15) (.const (.int .i64 1))), none⟩, ⟨(some 17), (.call (.func 71) [((.tmp 14), false), ((.tmp 16), false)]), none⟩, ⟨(some 5), (.move (.tmp 11)), none⟩, ⟨(some 6), (.move (.tmp 17)), none⟩]) (.block 2 (.seq (.region [⟨(some 21), (.move (.tmp 5)), none⟩, ⟨(some 22), (.call (.func 70) [((.tmp 21), false)]), none⟩, ⟨(some 23), (.move (.tmp 22)), none⟩, ⟨(some 24), (.move (.tmp 5)), (some (23, false))⟩, ⟨(some 25), (.call (.func 79) [((.tmp 24), false)]), (some (23, false))⟩, ⟨(some 26), (.pick (.tmp 23) (.const (.bool true)) (.tmp 25)), none⟩, ⟨(some 20), (.move (.tmp 26)), none⟩]) (.cond (.tmp 20) (.region [⟨(some 27), (.move (.tmp 4)), none⟩, ⟨(some 28), (.bin .add (.tmp 27) (.const (.int .i64 1))), none⟩, ⟨(some 4), (.move (.tmp 28)), none⟩]) (.seq (.region [⟨(some 30), (.move (.tmp 5)), none⟩, ⟨(some 31), (.bin .neq (.tmp 30) (.const (.int .u8 45))), none⟩, ⟨(some 32), (.move (.tmp 31)), none⟩, ⟨(some 33), (.move (.tmp 6)), (some (32, false))⟩, ⟨(some 34), (.bin .eql (.tmp 33) (.const (.int .u8 45))), (some (32, false))⟩, ⟨(some 35), (.pick (.tmp 32) (.const (.bool true)) (.tmp 34)), none⟩, ⟨(some 29), (.move (.tmp 35)), none⟩]) (.cond (.tmp 29) (.seq (.region [⟨(some 36), (.move (.tmp 4)), none⟩, ⟨(some 2), (.move (.tmp 36)), none⟩, ⟨(some 3), (.move (.const (.bool true))), none⟩]) .ret) (.seq (.region [⟨(some 38), (.move (.tmp 6)), none⟩, ⟨(some 39), (.call (.func 70) [((.tmp 38), false)]), none⟩, ⟨(some 40), (.un .not (.tmp 39)), none⟩, ⟨(some 41), (.move (.tmp 40)), none⟩, ⟨(some 42), (.move (.tmp 6)), (some (41, true))⟩, ⟨(some 43), (.call (.func 79) [((.tmp 42), false)]), (some (41, true))⟩, ⟨(some 44), (.un .not (.tmp 43)), (some (41, true))⟩, ⟨(some 45), (.pick (.tmp 41) (.tmp 44) (.const (.bool false))), none⟩, ⟨(some 37), (.move (.tmp 45)), none⟩]) (.cond (.tmp 37) (.seq (.region [⟨(some 46), (.move (.tmp 4)), none⟩, ⟨(some 2), (.move (.tmp 46)), none⟩, ⟨(some 3), (.move (.const (.bool false))), none⟩]) .ret) (.region [⟨(some 18), (.move (.tmp 4)), none⟩, ⟨(some 19), (.bin .add (.tmp 18) (.const (.int .i64 1))), none⟩, ⟨(some 4), (.move (.tmp 19)), none⟩]))))))))))))))
theorem c72 : cfn E0.P [] Tryd.f72 = some (ac72, [(.tmp 2), (.tmp 3)], 47) := by kernel_rfl
/-- spandrel/token.digit -/
def ac79 : ACode := (.seq (.region [⟨(some 2), (.move (.const (.bool false))), none⟩]) (.seq (.region [⟨(some 3), (.move (.tmp 0)), none⟩, ⟨(some 4), (.bin .leq (.const (.int .u8 48)) (.tmp 3)), none⟩, ⟨(some 5), (.move (.tmp 4)), none⟩, ⟨(some 6), (.move (.tmp 0)), (some (5, true))⟩, ⟨(some 7), (.bin .leq (.tmp 6) (.const (.int .u8 57))), (some (5, true))⟩, ⟨(some 8), (.pick (.tmp 5) (.tmp 7) (.const (.bool false))), none⟩, ⟨(some 2), (.move (.tmp 8)), none⟩]) .ret))
theorem c79 : cfn E0.P [] Tryd.f79 = some (ac79, [(.tmp 2)], 9) := by kernel_rfl

def isLet (c : UInt8) : Bool := decide ((97 : Int) ≤ ((c ||| 32).toNat : Int)) && decide (((c ||| 32).toNat : Int) ≤ 122)
def isDig (c : UInt8) : Bool := decide ((48 : Int) ≤ (c.toNat : Int)) && decide ((c.toNat : Int) ≤ 57)
theorem digit_ev (c : UInt8) (h : List AObj) : EvR E0 79 [u8v c] h (boolv (isDig c)) := by
  refine ev_of (fn := Tryd.f79) (hs := []) Tryd.func79 c79 (by simp) fun hcl => ?_
  simp only [ac79, ↓awD, awP, Nat.reduceLeDiff, Nat.reduceEqDiff, Nat.reduceAdd, Nat.zero_add, Int.cast_ofNat_Int, Int.reduceLT, Int.reduceLE, Int.reduceEq]
  refine BrF.mk (fun hb => ?_) (fun hb => ?_)
  all_goals simp only [hb, ↓awD, awP, Nat.reduceLeDiff, Nat.reduceEqDiff, Nat.reduceAdd, Nat.zero_add, Int.cast_ofNat_Int, Int.reduceLT, Int.reduceLE, Int.reduceEq]
  all_goals exact Fin.same0 hcl (by simp [AV.under]) ⟨by simp only [isDig, boolv, hb, Bool.true_and, Bool.false_and], rfl⟩

theorem letter_ev (c : UInt8) (h : List AObj) : EvR E0 70 [u8v c] h (boolv (isLet c)) := by
  refine ev_of (fn := Tryd.f70) (hs := []) Tryd.func70 c70 (by simp) fun hcl => ?_
  simp only [ac70, or_u8, ↓awD, awP, Nat.reduceLeDiff, Nat.reduceEqDiff, Nat.reduceAdd, Nat.zero_add, Int.cast_ofNat_Int, Int.reduceLT, Int.reduceLE, Int.reduceEq]
  refine BrF.mk (fun hb => ?_) (fun hb => ?_)
  all_goals simp only [hb, or_u8, ↓awD, awP, Nat.reduceLeDiff, Nat.reduceEqDiff, Nat.reduceAdd, Nat.zero_add, Int.cast_ofNat_Int, Int.reduceLT, Int.reduceLE, Int.reduceEq]
  all_goals exact Fin.same0 hcl (by simp [AV.under]) ⟨by simp only [isLet, boolv, hb, Bool.true_and, Bool.false_and], rfl⟩

/-- A text and a place in it, as an object. -/
abbrev txt (b : List UInt8) (at_ : Nat) : AObj := .cells [.sl .unk (byA b), i64 at_]

theorem peek_ev {h : List AObj} {s : Nat} {b : List UInt8} {at_ k : Nat} (hs : h[s]? = some (txt b at_)) (hk : at_ + k < 2 ^ 62) :
    EvR E0 71 [.ref s 0, i64 k] h (u8v (pk b (at_ + k))) := by
  refine ev_of (fn := Tryd.f71) (hs := []) Tryd.func71 c71 (by simp) fun hcl => ?_
  have hw : IntKind.i64.wrap ((at_ : Int) + (k : Int)) = ((at_ + k : Nat) : Int) := by rw [wrap_i64] <;> omega
  simp only [ac71, hs, hw, ↓awD, awP, Nat.reduceLeDiff, Nat.reduceEqDiff, Nat.reduceAdd, Nat.zero_add, Int.cast_ofNat_Int, Int.reduceLT, Int.reduceLE, Int.reduceEq]
  refine BrF.dec (fun hb => ?_) (fun hb => ?_)
  · have hn : b[at_ + k]? = none := by rw [List.length_map] at hb; exact List.getElem?_eq_none (by omega)
    simp only [↓awD, awP, Nat.reduceLeDiff, Nat.reduceEqDiff, Nat.reduceAdd, Nat.zero_add, Int.cast_ofNat_Int, Int.reduceLT, Int.reduceLE, Int.reduceEq]
    refine Fin.same0 hcl (by simp [AV.under]) ⟨?_, rfl⟩
    simp [u8v, pk, hn]
  · simp only [hs, hw, ↓awD, awP, Nat.reduceLeDiff, Nat.reduceEqDiff, Nat.reduceAdd, Nat.zero_add, Int.cast_ofNat_Int, Int.reduceLT, Int.reduceLE, Int.reduceEq]
    refine Need.mk (by omega) fun c hc => ?_
    simp only [Int.toNat_natCast] at hc
    obtain ⟨x, hx, rfl⟩ : ∃ x, b[at_ + k]? = some x ∧ u8v x = c := by simpa [List.getElem?_map] using hc
    simp only [↓awD, awP, Nat.reduceLeDiff, Nat.reduceEqDiff, Nat.reduceAdd, Nat.zero_add, Int.cast_ofNat_Int, Int.reduceLT, Int.reduceLE, Int.reduceEq]
    refine Fin.same0 hcl (by simp [AV.under]) ⟨?_, rfl⟩
    simp [u8v, pk, hx]

/-- How long a word is, told by its characters: from the n-th on; false: it ends with a hyphen. -/
def wl (p : Nat → UInt8) : Nat → Nat → Nat × Bool
  | 0, n => (n, true)
  | f + 1, n =>
    if isLet (p n) || isDig (p n) then wl p f (n + 1)
    else if !isC 45 (p n) || isC 45 (p (n + 1)) then (n, true)
    else if !isLet (p (n + 1)) && !isDig (p (n + 1)) then (n, false)
    else wl p f (n + 1)

theorem word_ev {h : List AObj} {s : Nat} {b : List UInt8} {at_ : Nat} (hs : h[s]? = some (txt b at_)) (hk : at_ + b.length < 2 ^ 61) :
    EvR E0 72 [.ref s 0] h (.tup [i64 (wl (fun k => pk b (at_ + k)) (b.length + 1) 1).1, boolv (wl (fun k => pk b (at_ + k)) (b.length + 1) 1).2]) := by
  refine ev_of (fn := Tryd.f72) (hs := []) Tryd.func72 c72 (by simp) fun hcl => ?_
  generalize hR : wl (fun k => pk b (at_ + k)) (b.length + 1) 1 = R
  simp only [ac72, hs, ↓awD, awP, Nat.reduceLeDiff, Nat.reduceEqDiff, Nat.reduceAdd, Nat.zero_add, Int.cast_ofNat_Int, Int.reduceLT, Int.reduceLE, Int.reduceEq]
  refine LoopF.by (α := Nat × Nat) (fun x => ⟨[(0, .ref s 0), (4, i64 x.1)], h⟩) (fun x => x.2)
    (fun x => b.length < at_ + x.1 + x.2 ∧ x.1 ≤ b.length + 2 ∧ wl (fun k => pk b (at_ + k)) x.2 x.1 = R)
    (1, b.length + 1) ⟨by simp; omega, by simp, hR⟩ (weak_of rfl (by simp [look])) ?_
  rintro ⟨n, f⟩ ⟨h1, h2, h3⟩
  simp only at h1 h2 h3
  have hw : IntKind.i64.wrap ((n : Int) + 1) = ((n + 1 : Nat) : Int) := by rw [wrap_i64] <;> omega
  simp only [↓awD, awP, Nat.reduceLeDiff, Nat.reduceEqDiff, Nat.reduceAdd, Nat.zero_add, Int.cast_ofNat_Int, Int.reduceLT, Int.reduceLE, Int.reduceEq]
  refine EvRF.ret (peek_ev hs (by omega)) ?_
  simp only [hw, ↓awD, awP, Nat.reduceLeDiff, Nat.reduceEqDiff, Nat.reduceAdd, Nat.zero_add, Int.cast_ofNat_Int, Int.reduceLT, Int.reduceLE, Int.reduceEq]
  refine EvRF.ret (peek_ev hs (by omega)) ?_
  simp only [↓awD, awP, Nat.reduceLeDiff, Nat.reduceEqDiff, Nat.reduceAdd, Nat.zero_add, Int.cast_ofNat_Int, Int.reduceLT, Int.reduceLE, Int.reduceEq]
  generalize hc : pk b (at_ + n) = c
  generalize hd : pk b (at_ + (n + 1)) = d
  have hcz : at_ + n ≥ b.length → c = 0 := fun hge => by rw [← hc, pk, List.getElem?_eq_none hge]; rfl
  obtain ⟨f, rfl⟩ | hf : (∃ f', f = f' + 1) ∨ f = 0 := by cases f <;> simp
  rotate_left
  · subst hf
    have hc0 := hcz (by omega)
    subst hc0
    simp only [wl] at h3
    refine EvF.ret (letter_ev _ h) ?_
    simp only [show isLet 0 = false from rfl, ↓awD, awP, Nat.reduceLeDiff, Nat.reduceEqDiff, Nat.reduceAdd, Nat.zero_add, Int.cast_ofNat_Int, Int.reduceLT, Int.reduceLE, Int.reduceEq]
    refine EvF.ret (digit_ev _ h) ?_
    simp only [show isDig 0 = false from rfl, show (((0 : UInt8).toNat : Int) = 45) = False from by simp, ↓awD, awP, Nat.reduceLeDiff, Nat.reduceEqDiff, Nat.reduceAdd, Nat.zero_add, Int.cast_ofNat_Int, Int.reduceLT, Int.reduceLE, Int.reduceEq]
    exact Fin.same0 hcl (by simp [AV.under, unders]) ⟨by rw [← h3], rfl⟩
  have hne : isLet c = true ∨ isDig c = true ∨ isC 45 c = true → n ≤ b.length := fun hh => by
    rcases Nat.lt_or_ge (at_ + n) b.length with h' | h'
    · omega
    · have := hcz h'; subst this; exact absurd hh (by decide)
  simp only [wl, hc, hd] at h3
  refine EvF.ret (letter_ev _ h) ?_
  cases hlc : isLet c
  · simp only [↓awD, awP, Nat.reduceLeDiff, Nat.reduceEqDiff, Nat.reduceAdd, Nat.zero_add, Int.cast_ofNat_Int, Int.reduceLT, Int.reduceLE, Int.reduceEq]
    refine EvF.ret (digit_ev _ h) ?_
    cases hdc : isDig c
    · simp only [↓awD, awP, Nat.reduceLeDiff, Nat.reduceEqDiff, Nat.reduceAdd, Nat.zero_add, Int.cast_ofNat_Int, Int.reduceLT, Int.reduceLE, Int.reduceEq]
      cases h45 : isC 45 c
      · have h45' : decide ((c.toNat : Int) = 45) = false := h45
        simp only [h45', ↓awD, awP, Nat.reduceLeDiff, Nat.reduceEqDiff, Nat.reduceAdd, Nat.zero_add, Int.cast_ofNat_Int, Int.reduceLT, Int.reduceLE, Int.reduceEq]
        simp [hlc, hdc, h45] at h3
        exact Fin.same0 hcl (by simp [AV.under, unders]) ⟨by rw [← h3], rfl⟩
      · have h45' : decide ((c.toNat : Int) = 45) = true := h45
        simp only [h45', ↓awD, awP, Nat.reduceLeDiff, Nat.reduceEqDiff, Nat.reduceAdd, Nat.zero_add, Int.cast_ofNat_Int, Int.reduceLT, Int.reduceLE, Int.reduceEq]
        cases e45 : isC 45 d
        · have e45' : decide ((d.toNat : Int) = 45) = false := e45
          simp only [e45', ↓awD, awP, Nat.reduceLeDiff, Nat.reduceEqDiff, Nat.reduceAdd, Nat.zero_add, Int.cast_ofNat_Int, Int.reduceLT, Int.reduceLE, Int.reduceEq]
          refine EvF.ret (letter_ev _ h) ?_
          cases hld : isLet d
          · simp only [↓awD, awP, Nat.reduceLeDiff, Nat.reduceEqDiff, Nat.reduceAdd, Nat.zero_add, Int.cast_ofNat_Int, Int.reduceLT, Int.reduceLE, Int.reduceEq]
            refine EvF.ret (digit_ev _ h) ?_
            cases hdd : isDig d
            · simp only [↓awD, awP, Nat.reduceLeDiff, Nat.reduceEqDiff, Nat.reduceAdd, Nat.zero_add, Int.cast_ofNat_Int, Int.reduceLT, Int.reduceLE, Int.reduceEq]
              simp [hlc, hdc, h45, e45, hld, hdd] at h3
              exact Fin.same0 hcl (by simp [AV.under, unders]) ⟨by rw [← h3], rfl⟩
            · simp only [hw, ↓awD, awP, Nat.reduceLeDiff, Nat.reduceEqDiff, Nat.reduceAdd, Nat.zero_add, Int.cast_ofNat_Int, Int.reduceLT, Int.reduceLE, Int.reduceEq]
              simp [hlc, hdc, h45, e45, hld, hdd] at h3
              exact ⟨(n + 1, f), ⟨by simp; omega, by simp; have := hne (by simp [h45]); omega, h3⟩, by simp, weak_of rfl (by simp [look])⟩
          · simp only [hw, ↓awD, awP, Nat.reduceLeDiff, Nat.reduceEqDiff, Nat.reduceAdd, Nat.zero_add, Int.cast_ofNat_Int, Int.reduceLT, Int.reduceLE, Int.reduceEq]
            simp [hlc, hdc, h45, e45, hld] at h3
            exact ⟨(n + 1, f), ⟨by simp; omega, by simp; have := hne (by simp [h45]); omega, h3⟩, by simp, weak_of rfl (by simp [look])⟩
        · have e45' : decide ((d.toNat : Int) = 45) = true := e45
          simp only [e45', ↓awD, awP, Nat.reduceLeDiff, Nat.reduceEqDiff, Nat.reduceAdd, Nat.zero_add, Int.cast_ofNat_Int, Int.reduceLT, Int.reduceLE, Int.reduceEq]
          simp [hlc, hdc, h45, e45] at h3
          exact Fin.same0 hcl (by simp [AV.under, unders]) ⟨by rw [← h3], rfl⟩
    · simp only [hw, ↓awD, awP, Nat.reduceLeDiff, Nat.reduceEqDiff, Nat.reduceAdd, Nat.zero_add, Int.cast_ofNat_Int, Int.reduceLT, Int.reduceLE, Int.reduceEq]
      simp [hlc, hdc] at h3
      exact ⟨(n + 1, f), ⟨by simp; omega, by simp; have := hne (by simp [hdc]); omega, h3⟩, by simp, weak_of rfl (by simp [look])⟩
  · simp only [hw, ↓awD, awP, Nat.reduceLeDiff, Nat.reduceEqDiff, Nat.reduceAdd, Nat.zero_add, Int.cast_ofNat_Int, Int.reduceLT, Int.reduceLE, Int.reduceEq]
    simp [hlc] at h3
    exact ⟨(n + 1, f), ⟨by simp; omega, by simp; have := hne (by simp [hlc]); omega, h3⟩, by simp, weak_of rfl (by simp [look])⟩
end Go.Abs.Fr
