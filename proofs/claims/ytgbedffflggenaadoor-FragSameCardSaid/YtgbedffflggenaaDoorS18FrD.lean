/- Characters, and the character at a place. -/
import Derived.Test.YtgbedffflggenaaDoorS18FrC
set_option linter.all false
namespace Go.Abs.Fr
open Go Go.Abs Go.Proofs
set_option linter.unusedSimpArgs false
set_option maxRecDepth 100000

abbrev u8v (c : UInt8) : AV := .lit (.int .u8 c.toNat)
abbrev byA (b : List UInt8) : List AV := b.map fun c => AV.lit (.int .u8 c.toNat)
abbrev i64 (n : Int) : AV := .lit (.int .i64 n)
abbrev boolv (b : Bool) : AV := .lit (.bool b)

def isLet (c : UInt8) : Bool := decide ((97 : Int) ≤ ((c ||| 32).toNat : Int)) && decide (((c ||| 32).toNat : Int) ≤ 122)
def isDig (c : UInt8) : Bool := decide ((48 : Int) ≤ (c.toNat : Int)) && decide ((c.toNat : Int) ≤ 57)
/-- The character at a place; 0 behind the end. -/
def pk (b : List UInt8) (i : Nat) : UInt8 := b[i]?.getD 0

theorem wrap_u8 (d : UInt8) : IntKind.u8.wrap (d.toNat : Int) = (d.toNat : Int) := by
  have := d.toNat_lt
  simp [IntKind.wrap, IntKind.signed, IntKind.bits]
  omega
theorem or_u8 (c : UInt8) : ibits .or .u8 (c.toNat : Int) 32 = ((c ||| 32).toNat : Int) := by
  have h1 : (BitVec.ofInt 8 (c.toNat : Int)) = c.toBitVec := by
    apply BitVec.eq_of_toNat_eq
    simp
  have h2 : (BitVec.ofInt 8 32) = (32 : UInt8).toBitVec := by decide
  show IntKind.u8.wrap (((BitVec.ofInt 8 (c.toNat : Int)) ||| (BitVec.ofInt 8 32)).toNat : Int) = _
  rw [h1, h2]
  exact wrap_u8 (c ||| 32)

theorem digit_ev (c : UInt8) (h : List AObj) : EvR E0 84 [u8v c] h (boolv (isDig c)) := by
  refine ev_of (fn := Tryd.f84) (hs := []) Tryd.func84 c84 (by simp) fun hcl => ?_
  simp only [ac84, ne_eq, not_false_eq_true, Option.map_some, Option.map_none, List.map_cons, List.map_nil, Bool.not_true, Bool.not_false, decide_true, decide_false, List.getElem?_cons_zero, List.getElem?_cons_succ, ↓aw1, ↓aw2, ↓aw17, aw3, aw4, aw5, aw6, aw7, aw8, aw9, aw10, aw11, aw12, aw13, aw14, aw15, aw16, aw19, Nat.reduceLeDiff, if_true, if_false, Nat.reduceEqDiff, Nat.reduceAdd, beq_self_eq_true, beq_true, beq_false, Bool.false_eq_true]
  refine BrF.mk (fun hb => ?_) (fun hb => ?_)
  all_goals simp only [hb, ne_eq, not_false_eq_true, Option.map_some, Option.map_none, List.map_cons, List.map_nil, Bool.not_true, Bool.not_false, decide_true, decide_false, List.getElem?_cons_zero, List.getElem?_cons_succ, ↓aw1, ↓aw2, ↓aw17, aw3, aw4, aw5, aw6, aw7, aw8, aw9, aw10, aw11, aw12, aw13, aw14, aw15, aw16, aw19, Nat.reduceLeDiff, if_true, if_false, Nat.reduceEqDiff, Nat.reduceAdd, beq_self_eq_true, beq_true, beq_false, Bool.false_eq_true]
  all_goals exact Fin.same0 hcl (by simp [AV.under]) ⟨by simp only [isDig, boolv, hb, Bool.true_and, Bool.false_and], rfl⟩

theorem letter_ev (c : UInt8) (h : List AObj) : EvR E0 68 [u8v c] h (boolv (isLet c)) := by
  refine ev_of (fn := Tryd.f68) (hs := []) Tryd.func68 c68 (by simp) fun hcl => ?_
  simp only [ac68, or_u8, ne_eq, not_false_eq_true, Option.map_some, Option.map_none, List.map_cons, List.map_nil, Bool.not_true, Bool.not_false, decide_true, decide_false, List.getElem?_cons_zero, List.getElem?_cons_succ, ↓aw1, ↓aw2, ↓aw17, aw3, aw4, aw5, aw6, aw7, aw8, aw9, aw10, aw11, aw12, aw13, aw14, aw15, aw16, aw19, Nat.reduceLeDiff, if_true, if_false, Nat.reduceEqDiff, Nat.reduceAdd, beq_self_eq_true, beq_true, beq_false, Bool.false_eq_true]
  refine BrF.mk (fun hb => ?_) (fun hb => ?_)
  all_goals simp only [hb, or_u8, ne_eq, not_false_eq_true, Option.map_some, Option.map_none, List.map_cons, List.map_nil, Bool.not_true, Bool.not_false, decide_true, decide_false, List.getElem?_cons_zero, List.getElem?_cons_succ, ↓aw1, ↓aw2, ↓aw17, aw3, aw4, aw5, aw6, aw7, aw8, aw9, aw10, aw11, aw12, aw13, aw14, aw15, aw16, aw19, Nat.reduceLeDiff, if_true, if_false, Nat.reduceEqDiff, Nat.reduceAdd, beq_self_eq_true, beq_true, beq_false, Bool.false_eq_true]
  all_goals exact Fin.same0 hcl (by simp [AV.under]) ⟨by simp only [isLet, boolv, hb, Bool.true_and, Bool.false_and], rfl⟩

/-- A text and a place in it, as an object. -/
abbrev txt (b : List UInt8) (at_ : Nat) : AObj := .cells [.sl .unk (byA b), i64 at_]

theorem wrap_i64 (n : Int) (h0 : -9223372036854775808 ≤ n) (h : n ≤ 9223372036854775807) : IntKind.i64.wrap n = n := by
  simp [IntKind.wrap, IntKind.signed, IntKind.bits]
  omega

theorem peek_ev {h : List AObj} {s : Nat} {b : List UInt8} {at_ k : Nat} (hs : h[s]? = some (txt b at_)) (hk : at_ + k < 2 ^ 62) :
    EvR E0 69 [.ref s 0, i64 k] h (u8v (pk b (at_ + k))) := by
  refine ev_of (fn := Tryd.f69) (hs := []) Tryd.func69 c69 (by simp) fun hcl => ?_
  have hw : IntKind.i64.wrap ((at_ : Int) + (k : Int)) = ((at_ + k : Nat) : Int) := by rw [wrap_i64] <;> omega
  simp only [ac69, hs, hw, ne_eq, not_false_eq_true, Option.map_some, Option.map_none, List.map_cons, List.map_nil, Bool.not_true, Bool.not_false, decide_true, decide_false, List.getElem?_cons_zero, List.getElem?_cons_succ, ↓aw1, ↓aw2, ↓aw17, aw3, aw4, aw5, aw6, aw7, aw8, aw9, aw10, aw11, aw12, aw13, aw14, aw15, aw16, aw19, Nat.reduceLeDiff, if_true, if_false, Nat.reduceEqDiff, Nat.reduceAdd, beq_self_eq_true, beq_true, beq_false, Bool.false_eq_true]
  refine BrF.dec (fun hb => ?_) (fun hb => ?_)
  · have hn : b[at_ + k]? = none := by rw [List.length_map] at hb; exact List.getElem?_eq_none (by omega)
    simp only [ne_eq, not_false_eq_true, Option.map_some, Option.map_none, List.map_cons, List.map_nil, Bool.not_true, Bool.not_false, decide_true, decide_false, List.getElem?_cons_zero, List.getElem?_cons_succ, ↓aw1, ↓aw2, ↓aw17, aw3, aw4, aw5, aw6, aw7, aw8, aw9, aw10, aw11, aw12, aw13, aw14, aw15, aw16, aw19, Nat.reduceLeDiff, if_true, if_false, Nat.reduceEqDiff, Nat.reduceAdd, beq_self_eq_true, beq_true, beq_false, Bool.false_eq_true]
    refine Fin.same0 hcl (by simp [AV.under]) ⟨?_, rfl⟩
    simp [u8v, pk, hn]
  · simp only [hs, hw, ne_eq, not_false_eq_true, Option.map_some, Option.map_none, List.map_cons, List.map_nil, Bool.not_true, Bool.not_false, decide_true, decide_false, List.getElem?_cons_zero, List.getElem?_cons_succ, ↓aw1, ↓aw2, ↓aw17, aw3, aw4, aw5, aw6, aw7, aw8, aw9, aw10, aw11, aw12, aw13, aw14, aw15, aw16, aw19, Nat.reduceLeDiff, if_true, if_false, Nat.reduceEqDiff, Nat.reduceAdd, beq_self_eq_true, beq_true, beq_false, Bool.false_eq_true]
    refine Need.mk (by omega) fun c hc => ?_
    simp only [Int.toNat_natCast] at hc
    obtain ⟨x, hx, rfl⟩ : ∃ x, b[at_ + k]? = some x ∧ u8v x = c := by simpa [List.getElem?_map] using hc
    simp only [ne_eq, not_false_eq_true, Option.map_some, Option.map_none, List.map_cons, List.map_nil, Bool.not_true, Bool.not_false, decide_true, decide_false, List.getElem?_cons_zero, List.getElem?_cons_succ, ↓aw1, ↓aw2, ↓aw17, aw3, aw4, aw5, aw6, aw7, aw8, aw9, aw10, aw11, aw12, aw13, aw14, aw15, aw16, aw19, Nat.reduceLeDiff, if_true, if_false, Nat.reduceEqDiff, Nat.reduceAdd, beq_self_eq_true, beq_true, beq_false, Bool.false_eq_true]
    refine Fin.same0 hcl (by simp [AV.under]) ⟨?_, rfl⟩
    simp [u8v, pk, hx]

/-- Is a character this one? -/
def isC (n : Int) (c : UInt8) : Bool := decide ((c.toNat : Int) = n)

/-- How long a word is, told by its characters: from the n-th on; false: it ends with a hyphen. -/
def wl (p : Nat → UInt8) : Nat → Nat → Nat × Bool
  | 0, n => (n, true)
  | f + 1, n =>
    if isLet (p n) || isDig (p n) then wl p f (n + 1)
    else if !isC 45 (p n) || isC 45 (p (n + 1)) then (n, true)
    else if !isLet (p (n + 1)) && !isDig (p (n + 1)) then (n, false)
    else wl p f (n + 1)

theorem isC_zero {n : Int} (h : n ≠ 0) : isC n 0 = false := by simp [isC]; omega
theorem isC_eq {n : Nat} {c : UInt8} (hn : n < 256) : isC n c = decide (c = UInt8.ofNat n) := by
  unfold isC
  rw [decide_eq_decide]
  constructor
  · intro h
    apply UInt8.toNat_inj.1
    rw [UInt8.toNat_ofNat_of_lt' (by simpa using hn)]
    omega
  · rintro rfl
    rw [UInt8.toNat_ofNat_of_lt' (by simpa using hn)]

theorem word_ev {h : List AObj} {s : Nat} {b : List UInt8} {at_ : Nat} (hs : h[s]? = some (txt b at_)) (hk : at_ + b.length < 2 ^ 61) :
    EvR E0 70 [.ref s 0] h (.tup [i64 (wl (fun k => pk b (at_ + k)) (b.length + 1) 1).1, boolv (wl (fun k => pk b (at_ + k)) (b.length + 1) 1).2]) := by
  refine ev_of (fn := Tryd.f70) (hs := []) Tryd.func70 c70 (by simp) fun hcl => ?_
  generalize hR : wl (fun k => pk b (at_ + k)) (b.length + 1) 1 = R
  simp only [ac70, hs, ne_eq, not_false_eq_true, Option.map_some, Option.map_none, List.map_cons, List.map_nil, Bool.not_true, Bool.not_false, decide_true, decide_false, List.getElem?_cons_zero, List.getElem?_cons_succ, ↓aw1, ↓aw2, ↓aw17, aw3, aw4, aw5, aw6, aw7, aw8, aw9, aw10, aw11, aw12, aw13, aw14, aw15, aw16, aw19, Nat.reduceLeDiff, if_true, if_false, Nat.reduceEqDiff, Nat.reduceAdd, beq_self_eq_true, beq_true, beq_false, Bool.false_eq_true]
  refine LoopF.by (α := Nat × Nat) (fun x => ⟨[(0, .ref s 0), (4, i64 x.1)], h⟩) (fun x => x.2)
    (fun x => b.length < at_ + x.1 + x.2 ∧ x.1 ≤ b.length + 2 ∧ wl (fun k => pk b (at_ + k)) x.2 x.1 = R)
    (1, b.length + 1) ⟨by simp; omega, by simp, hR⟩ (weak_of rfl (by simp [look])) ?_
  rintro ⟨n, f⟩ ⟨h1, h2, h3⟩
  simp only at h1 h2 h3
  have hw : IntKind.i64.wrap ((n : Int) + 1) = ((n + 1 : Nat) : Int) := by rw [wrap_i64] <;> omega
  simp only [ne_eq, not_false_eq_true, Option.map_some, Option.map_none, List.map_cons, List.map_nil, Bool.not_true, Bool.not_false, decide_true, decide_false, List.getElem?_cons_zero, List.getElem?_cons_succ, ↓aw1, ↓aw2, ↓aw17, aw3, aw4, aw5, aw6, aw7, aw8, aw9, aw10, aw11, aw12, aw13, aw14, aw15, aw16, aw19, Nat.reduceLeDiff, if_true, if_false, Nat.reduceEqDiff, Nat.reduceAdd, beq_self_eq_true, beq_true, beq_false, Bool.false_eq_true]
  refine EvRF.ret (peek_ev hs (by omega)) ?_
  simp only [hw, ne_eq, not_false_eq_true, Option.map_some, Option.map_none, List.map_cons, List.map_nil, Bool.not_true, Bool.not_false, decide_true, decide_false, List.getElem?_cons_zero, List.getElem?_cons_succ, ↓aw1, ↓aw2, ↓aw17, aw3, aw4, aw5, aw6, aw7, aw8, aw9, aw10, aw11, aw12, aw13, aw14, aw15, aw16, aw19, Nat.reduceLeDiff, if_true, if_false, Nat.reduceEqDiff, Nat.reduceAdd, beq_self_eq_true, beq_true, beq_false, Bool.false_eq_true]
  refine EvRF.ret (peek_ev hs (by omega)) ?_
  simp only [ne_eq, not_false_eq_true, Option.map_some, Option.map_none, List.map_cons, List.map_nil, Bool.not_true, Bool.not_false, decide_true, decide_false, List.getElem?_cons_zero, List.getElem?_cons_succ, ↓aw1, ↓aw2, ↓aw17, aw3, aw4, aw5, aw6, aw7, aw8, aw9, aw10, aw11, aw12, aw13, aw14, aw15, aw16, aw19, Nat.reduceLeDiff, if_true, if_false, Nat.reduceEqDiff, Nat.reduceAdd, beq_self_eq_true, beq_true, beq_false, Bool.false_eq_true]
  generalize hc : pk b (at_ + n) = c
  generalize hd : pk b (at_ + (n + 1)) = d
  have hcz : at_ + n ≥ b.length → c = 0 := fun hge => by rw [← hc, pk, List.getElem?_eq_none hge]; rfl
  obtain ⟨f, rfl⟩ | hf : (∃ f', f = f' + 1) ∨ f = 0 := by cases f <;> simp
  rotate_left
  · subst hf
    have hc0 := hcz (by omega)
    subst hc0
    simp only [wl] at h3
    refine EvF.ret (letter_ev _ h) ?_
    simp only [show isLet 0 = false from rfl, ne_eq, not_false_eq_true, Option.map_some, Option.map_none, List.map_cons, List.map_nil, Bool.not_true, Bool.not_false, decide_true, decide_false, List.getElem?_cons_zero, List.getElem?_cons_succ, ↓aw1, ↓aw2, ↓aw17, aw3, aw4, aw5, aw6, aw7, aw8, aw9, aw10, aw11, aw12, aw13, aw14, aw15, aw16, aw19, Nat.reduceLeDiff, if_true, if_false, Nat.reduceEqDiff, Nat.reduceAdd, beq_self_eq_true, beq_true, beq_false, Bool.false_eq_true]
    refine EvF.ret (digit_ev _ h) ?_
    simp only [show isDig 0 = false from rfl, show (((0 : UInt8).toNat : Int) = 45) = False from by simp, ne_eq, not_false_eq_true, Option.map_some, Option.map_none, List.map_cons, List.map_nil, Bool.not_true, Bool.not_false, decide_true, decide_false, List.getElem?_cons_zero, List.getElem?_cons_succ, ↓aw1, ↓aw2, ↓aw17, aw3, aw4, aw5, aw6, aw7, aw8, aw9, aw10, aw11, aw12, aw13, aw14, aw15, aw16, aw19, Nat.reduceLeDiff, if_true, if_false, Nat.reduceEqDiff, Nat.reduceAdd, beq_self_eq_true, beq_true, beq_false, Bool.false_eq_true]
    exact Fin.same0 hcl (by simp [AV.under, unders]) ⟨by rw [← h3], rfl⟩
  have hne : isLet c = true ∨ isDig c = true ∨ isC 45 c = true → n ≤ b.length := fun hh => by
    rcases Nat.lt_or_ge (at_ + n) b.length with h' | h'
    · omega
    · have := hcz h'; subst this; exact absurd hh (by decide)
  simp only [wl, hc, hd] at h3
  refine EvF.ret (letter_ev _ h) ?_
  cases hlc : isLet c
  · simp only [ne_eq, not_false_eq_true, Option.map_some, Option.map_none, List.map_cons, List.map_nil, Bool.not_true, Bool.not_false, decide_true, decide_false, List.getElem?_cons_zero, List.getElem?_cons_succ, ↓aw1, ↓aw2, ↓aw17, aw3, aw4, aw5, aw6, aw7, aw8, aw9, aw10, aw11, aw12, aw13, aw14, aw15, aw16, aw19, Nat.reduceLeDiff, if_true, if_false, Nat.reduceEqDiff, Nat.reduceAdd, beq_self_eq_true, beq_true, beq_false, Bool.false_eq_true]
    refine EvF.ret (digit_ev _ h) ?_
    cases hdc : isDig c
    · simp only [ne_eq, not_false_eq_true, Option.map_some, Option.map_none, List.map_cons, List.map_nil, Bool.not_true, Bool.not_false, decide_true, decide_false, List.getElem?_cons_zero, List.getElem?_cons_succ, ↓aw1, ↓aw2, ↓aw17, aw3, aw4, aw5, aw6, aw7, aw8, aw9, aw10, aw11, aw12, aw13, aw14, aw15, aw16, aw19, Nat.reduceLeDiff, if_true, if_false, Nat.reduceEqDiff, Nat.reduceAdd, beq_self_eq_true, beq_true, beq_false, Bool.false_eq_true]
      cases h45 : isC 45 c
      · have h45' : decide ((c.toNat : Int) = 45) = false := h45
        simp only [h45', ne_eq, not_false_eq_true, Option.map_some, Option.map_none, List.map_cons, List.map_nil, Bool.not_true, Bool.not_false, decide_true, decide_false, List.getElem?_cons_zero, List.getElem?_cons_succ, ↓aw1, ↓aw2, ↓aw17, aw3, aw4, aw5, aw6, aw7, aw8, aw9, aw10, aw11, aw12, aw13, aw14, aw15, aw16, aw19, Nat.reduceLeDiff, if_true, if_false, Nat.reduceEqDiff, Nat.reduceAdd, beq_self_eq_true, beq_true, beq_false, Bool.false_eq_true]
        simp [hlc, hdc, h45] at h3
        exact Fin.same0 hcl (by simp [AV.under, unders]) ⟨by rw [← h3], rfl⟩
      · have h45' : decide ((c.toNat : Int) = 45) = true := h45
        simp only [h45', ne_eq, not_false_eq_true, Option.map_some, Option.map_none, List.map_cons, List.map_nil, Bool.not_true, Bool.not_false, decide_true, decide_false, List.getElem?_cons_zero, List.getElem?_cons_succ, ↓aw1, ↓aw2, ↓aw17, aw3, aw4, aw5, aw6, aw7, aw8, aw9, aw10, aw11, aw12, aw13, aw14, aw15, aw16, aw19, Nat.reduceLeDiff, if_true, if_false, Nat.reduceEqDiff, Nat.reduceAdd, beq_self_eq_true, beq_true, beq_false, Bool.false_eq_true]
        cases e45 : isC 45 d
        · have e45' : decide ((d.toNat : Int) = 45) = false := e45
          simp only [e45', ne_eq, not_false_eq_true, Option.map_some, Option.map_none, List.map_cons, List.map_nil, Bool.not_true, Bool.not_false, decide_true, decide_false, List.getElem?_cons_zero, List.getElem?_cons_succ, ↓aw1, ↓aw2, ↓aw17, aw3, aw4, aw5, aw6, aw7, aw8, aw9, aw10, aw11, aw12, aw13, aw14, aw15, aw16, aw19, Nat.reduceLeDiff, if_true, if_false, Nat.reduceEqDiff, Nat.reduceAdd, beq_self_eq_true, beq_true, beq_false, Bool.false_eq_true]
          refine EvF.ret (letter_ev _ h) ?_
          cases hld : isLet d
          · simp only [ne_eq, not_false_eq_true, Option.map_some, Option.map_none, List.map_cons, List.map_nil, Bool.not_true, Bool.not_false, decide_true, decide_false, List.getElem?_cons_zero, List.getElem?_cons_succ, ↓aw1, ↓aw2, ↓aw17, aw3, aw4, aw5, aw6, aw7, aw8, aw9, aw10, aw11, aw12, aw13, aw14, aw15, aw16, aw19, Nat.reduceLeDiff, if_true, if_false, Nat.reduceEqDiff, Nat.reduceAdd, beq_self_eq_true, beq_true, beq_false, Bool.false_eq_true]
            refine EvF.ret (digit_ev _ h) ?_
            cases hdd : isDig d
            · simp only [ne_eq, not_false_eq_true, Option.map_some, Option.map_none, List.map_cons, List.map_nil, Bool.not_true, Bool.not_false, decide_true, decide_false, List.getElem?_cons_zero, List.getElem?_cons_succ, ↓aw1, ↓aw2, ↓aw17, aw3, aw4, aw5, aw6, aw7, aw8, aw9, aw10, aw11, aw12, aw13, aw14, aw15, aw16, aw19, Nat.reduceLeDiff, if_true, if_false, Nat.reduceEqDiff, Nat.reduceAdd, beq_self_eq_true, beq_true, beq_false, Bool.false_eq_true]
              simp [hlc, hdc, h45, e45, hld, hdd] at h3
              exact Fin.same0 hcl (by simp [AV.under, unders]) ⟨by rw [← h3], rfl⟩
            · simp only [hw, ne_eq, not_false_eq_true, Option.map_some, Option.map_none, List.map_cons, List.map_nil, Bool.not_true, Bool.not_false, decide_true, decide_false, List.getElem?_cons_zero, List.getElem?_cons_succ, ↓aw1, ↓aw2, ↓aw17, aw3, aw4, aw5, aw6, aw7, aw8, aw9, aw10, aw11, aw12, aw13, aw14, aw15, aw16, aw19, Nat.reduceLeDiff, if_true, if_false, Nat.reduceEqDiff, Nat.reduceAdd, beq_self_eq_true, beq_true, beq_false, Bool.false_eq_true]
              simp [hlc, hdc, h45, e45, hld, hdd] at h3
              exact ⟨(n + 1, f), ⟨by simp; omega, by simp; have := hne (by simp [h45]); omega, h3⟩, by simp, weak_of rfl (by simp [look])⟩
          · simp only [hw, ne_eq, not_false_eq_true, Option.map_some, Option.map_none, List.map_cons, List.map_nil, Bool.not_true, Bool.not_false, decide_true, decide_false, List.getElem?_cons_zero, List.getElem?_cons_succ, ↓aw1, ↓aw2, ↓aw17, aw3, aw4, aw5, aw6, aw7, aw8, aw9, aw10, aw11, aw12, aw13, aw14, aw15, aw16, aw19, Nat.reduceLeDiff, if_true, if_false, Nat.reduceEqDiff, Nat.reduceAdd, beq_self_eq_true, beq_true, beq_false, Bool.false_eq_true]
            simp [hlc, hdc, h45, e45, hld] at h3
            exact ⟨(n + 1, f), ⟨by simp; omega, by simp; have := hne (by simp [h45]); omega, h3⟩, by simp, weak_of rfl (by simp [look])⟩
        · have e45' : decide ((d.toNat : Int) = 45) = true := e45
          simp only [e45', ne_eq, not_false_eq_true, Option.map_some, Option.map_none, List.map_cons, List.map_nil, Bool.not_true, Bool.not_false, decide_true, decide_false, List.getElem?_cons_zero, List.getElem?_cons_succ, ↓aw1, ↓aw2, ↓aw17, aw3, aw4, aw5, aw6, aw7, aw8, aw9, aw10, aw11, aw12, aw13, aw14, aw15, aw16, aw19, Nat.reduceLeDiff, if_true, if_false, Nat.reduceEqDiff, Nat.reduceAdd, beq_self_eq_true, beq_true, beq_false, Bool.false_eq_true]
          simp [hlc, hdc, h45, e45] at h3
          exact Fin.same0 hcl (by simp [AV.under, unders]) ⟨by rw [← h3], rfl⟩
    · simp only [hw, ne_eq, not_false_eq_true, Option.map_some, Option.map_none, List.map_cons, List.map_nil, Bool.not_true, Bool.not_false, decide_true, decide_false, List.getElem?_cons_zero, List.getElem?_cons_succ, ↓aw1, ↓aw2, ↓aw17, aw3, aw4, aw5, aw6, aw7, aw8, aw9, aw10, aw11, aw12, aw13, aw14, aw15, aw16, aw19, Nat.reduceLeDiff, if_true, if_false, Nat.reduceEqDiff, Nat.reduceAdd, beq_self_eq_true, beq_true, beq_false, Bool.false_eq_true]
      simp [hlc, hdc] at h3
      exact ⟨(n + 1, f), ⟨by simp; omega, by simp; have := hne (by simp [hdc]); omega, h3⟩, by simp, weak_of rfl (by simp [look])⟩
  · simp only [hw, ne_eq, not_false_eq_true, Option.map_some, Option.map_none, List.map_cons, List.map_nil, Bool.not_true, Bool.not_false, decide_true, decide_false, List.getElem?_cons_zero, List.getElem?_cons_succ, ↓aw1, ↓aw2, ↓aw17, aw3, aw4, aw5, aw6, aw7, aw8, aw9, aw10, aw11, aw12, aw13, aw14, aw15, aw16, aw19, Nat.reduceLeDiff, if_true, if_false, Nat.reduceEqDiff, Nat.reduceAdd, beq_self_eq_true, beq_true, beq_false, Bool.false_eq_true]
    simp [hlc] at h3
    exact ⟨(n + 1, f), ⟨by simp; omega, by simp; have := hne (by simp [hlc]); omega, h3⟩, by simp, weak_of rfl (by simp [look])⟩
end Go.Abs.Fr

namespace Go.Abs.Fr
open Go Go.Abs Go.Proofs
set_option linter.unusedSimpArgs false
set_option maxRecDepth 100000

/-- Is a text one word? -/
def whl (b : List UInt8) : Bool := isLet (pk b 0) && (wl (fun k => pk b k) (b.length + 1) 1).2 && decide ((wl (fun k => pk b k) (b.length + 1) 1).1 = b.length)

theorem last_obj (h : List AObj) (o : AObj) : (h ++ [o])[h.length]? = some o := by simp

theorem whole_ev (s : ByteArray) (h : List AObj) (hsz : s.size < 2 ^ 60) : EvR E0 51 [.lit (.string s)] h (boolv (whl s.data.toList)) := by
  refine ev_of (fn := Tryd.f51) (hs := []) Tryd.func51 c51 (by simp) fun hcl => ?_
  have hlen : s.data.toList.length = s.size := by simp
  simp only [ac51, ne_eq, not_false_eq_true, Option.map_some, Option.map_none, List.map_cons, List.map_nil, Bool.not_true, Bool.not_false, decide_true, decide_false, List.getElem?_cons_zero, List.getElem?_cons_succ, ↓aw1, ↓aw2, ↓aw17, aw3, aw4, aw5, aw6, aw7, aw8, aw9, aw10, aw11, aw12, aw13, aw14, aw15, aw16, aw19, Nat.reduceLeDiff, if_true, if_false, Nat.reduceEqDiff, Nat.reduceAdd, beq_self_eq_true, beq_true, beq_false, Bool.false_eq_true]
  refine Need.mk (by omega) ?_
  simp only [ne_eq, not_false_eq_true, Option.map_some, Option.map_none, List.map_cons, List.map_nil, Bool.not_true, Bool.not_false, decide_true, decide_false, List.getElem?_cons_zero, List.getElem?_cons_succ, ↓aw1, ↓aw2, ↓aw17, aw3, aw4, aw5, aw6, aw7, aw8, aw9, aw10, aw11, aw12, aw13, aw14, aw15, aw16, aw19, Nat.reduceLeDiff, if_true, if_false, Nat.reduceEqDiff, Nat.reduceAdd, beq_self_eq_true, beq_true, beq_false, Bool.false_eq_true]
  have hs := last_obj h (txt s.data.toList 0)
  refine EvF.ret (peek_ev (k := 0) hs (by omega)) ?_
  simp only [ne_eq, not_false_eq_true, Option.map_some, Option.map_none, List.map_cons, List.map_nil, Bool.not_true, Bool.not_false, decide_true, decide_false, List.getElem?_cons_zero, List.getElem?_cons_succ, ↓aw1, ↓aw2, ↓aw17, aw3, aw4, aw5, aw6, aw7, aw8, aw9, aw10, aw11, aw12, aw13, aw14, aw15, aw16, aw19, Nat.reduceLeDiff, if_true, if_false, Nat.reduceEqDiff, Nat.reduceAdd, beq_self_eq_true, beq_true, beq_false, Bool.false_eq_true]
  refine EvF.ret (letter_ev _ _) ?_
  cases hl : isLet (pk s.data.toList (0 + 0))
  · simp only [ne_eq, not_false_eq_true, Option.map_some, Option.map_none, List.map_cons, List.map_nil, Bool.not_true, Bool.not_false, decide_true, decide_false, List.getElem?_cons_zero, List.getElem?_cons_succ, ↓aw1, ↓aw2, ↓aw17, aw3, aw4, aw5, aw6, aw7, aw8, aw9, aw10, aw11, aw12, aw13, aw14, aw15, aw16, aw19, Nat.reduceLeDiff, if_true, if_false, Nat.reduceEqDiff, Nat.reduceAdd, beq_self_eq_true, beq_true, beq_false, Bool.false_eq_true]
    have hl' : isLet (pk s.data.toList 0) = false := hl
    exact Fin.same hcl (by simp [AV.under]) ⟨by simp [whl, hl'], rfl⟩
  have hl' : isLet (pk s.data.toList 0) = true := hl
  simp only [ne_eq, not_false_eq_true, Option.map_some, Option.map_none, List.map_cons, List.map_nil, Bool.not_true, Bool.not_false, decide_true, decide_false, List.getElem?_cons_zero, List.getElem?_cons_succ, ↓aw1, ↓aw2, ↓aw17, aw3, aw4, aw5, aw6, aw7, aw8, aw9, aw10, aw11, aw12, aw13, aw14, aw15, aw16, aw19, Nat.reduceLeDiff, if_true, if_false, Nat.reduceEqDiff, Nat.reduceAdd, beq_self_eq_true, beq_true, beq_false, Bool.false_eq_true]
  refine EvF.ret (word_ev hs (by omega)) ?_
  have e0 : (fun k => pk s.data.toList (0 + k)) = (fun k => pk s.data.toList k) := by funext k; rw [Nat.zero_add]
  rw [e0, hlen]
  generalize hR : wl (fun k => pk s.data.toList k) (s.size + 1) 1 = R
  obtain ⟨n, ok⟩ := R
  cases ok
  · simp only [ne_eq, not_false_eq_true, Option.map_some, Option.map_none, List.map_cons, List.map_nil, Bool.not_true, Bool.not_false, decide_true, decide_false, List.getElem?_cons_zero, List.getElem?_cons_succ, ↓aw1, ↓aw2, ↓aw17, aw3, aw4, aw5, aw6, aw7, aw8, aw9, aw10, aw11, aw12, aw13, aw14, aw15, aw16, aw19, Nat.reduceLeDiff, if_true, if_false, Nat.reduceEqDiff, Nat.reduceAdd, beq_self_eq_true, beq_true, beq_false, Bool.false_eq_true]
    exact Fin.same hcl (by simp [AV.under]) ⟨by simp [whl, hl', hR], rfl⟩
  · simp only [ne_eq, not_false_eq_true, Option.map_some, Option.map_none, List.map_cons, List.map_nil, Bool.not_true, Bool.not_false, decide_true, decide_false, List.getElem?_cons_zero, List.getElem?_cons_succ, ↓aw1, ↓aw2, ↓aw17, aw3, aw4, aw5, aw6, aw7, aw8, aw9, aw10, aw11, aw12, aw13, aw14, aw15, aw16, aw19, Nat.reduceLeDiff, if_true, if_false, Nat.reduceEqDiff, Nat.reduceAdd, beq_self_eq_true, beq_true, beq_false, Bool.false_eq_true]
    refine Fin.same hcl (by simp [AV.under]) ⟨?_, rfl⟩
    simp only [whl, hl', hlen, hR, Bool.true_and, boolv]
    congr 4
    simp
    omega

/-- A text's first character. -/
def lt97 (c : UInt8) : Bool := decide ((c.toNat : Int) < 97)

theorem bytes_get (s : ByteArray) (i : Nat) : s[i]? = s.data.toList[i]? := by
  by_cases hi : i < s.size
  · rw [getElem?_pos s i hi]
    have : i < s.data.toList.length := by simpa using hi
    rw [List.getElem?_eq_getElem this]
    simp
    rfl
  · rw [getElem?_neg s i hi, List.getElem?_eq_none (by simpa using hi)]

theorem pos_of {s : ByteArray} (hw : whl s.data.toList = true) : (0 : Int) < (s.size : Int) := by
  rcases Nat.eq_zero_or_pos s.size with h0 | h0
  · have : s.data.toList = [] := List.length_eq_zero_iff.1 (by simpa using h0)
    rw [this] at hw
    exact absurd hw (by decide)
  · omega

theorem upper_ev (s : ByteArray) (h : List AObj) (hsz : s.size < 2 ^ 60) : EvR E0 72 [.lit (.string s)] h (boolv (whl s.data.toList && lt97 (pk s.data.toList 0))) := by
  refine ev_of (fn := Tryd.f72) (hs := []) Tryd.func72 c72 (by simp) fun hcl => ?_
  simp only [ac72, ne_eq, not_false_eq_true, Option.map_some, Option.map_none, List.map_cons, List.map_nil, Bool.not_true, Bool.not_false, decide_true, decide_false, List.getElem?_cons_zero, List.getElem?_cons_succ, ↓aw1, ↓aw2, ↓aw17, aw3, aw4, aw5, aw6, aw7, aw8, aw9, aw10, aw11, aw12, aw13, aw14, aw15, aw16, aw19, Nat.reduceLeDiff, if_true, if_false, Nat.reduceEqDiff, Nat.reduceAdd, beq_self_eq_true, beq_true, beq_false, Bool.false_eq_true]
  refine EvF.ret (whole_ev s h hsz) ?_
  cases hw : whl s.data.toList
  · simp only [ne_eq, not_false_eq_true, Option.map_some, Option.map_none, List.map_cons, List.map_nil, Bool.not_true, Bool.not_false, decide_true, decide_false, List.getElem?_cons_zero, List.getElem?_cons_succ, ↓aw1, ↓aw2, ↓aw17, aw3, aw4, aw5, aw6, aw7, aw8, aw9, aw10, aw11, aw12, aw13, aw14, aw15, aw16, aw19, Nat.reduceLeDiff, if_true, if_false, Nat.reduceEqDiff, Nat.reduceAdd, beq_self_eq_true, beq_true, beq_false, Bool.false_eq_true]
    exact Fin.same0 hcl (by simp [AV.under]) ⟨by simp, rfl⟩
  · simp only [ne_eq, not_false_eq_true, Option.map_some, Option.map_none, List.map_cons, List.map_nil, Bool.not_true, Bool.not_false, decide_true, decide_false, List.getElem?_cons_zero, List.getElem?_cons_succ, ↓aw1, ↓aw2, ↓aw17, aw3, aw4, aw5, aw6, aw7, aw8, aw9, aw10, aw11, aw12, aw13, aw14, aw15, aw16, aw19, Nat.reduceLeDiff, if_true, if_false, Nat.reduceEqDiff, Nat.reduceAdd, beq_self_eq_true, beq_true, beq_false, Bool.false_eq_true]
    refine Need.mk ⟨by omega, pos_of hw⟩ fun c hc => ?_
    simp only [ne_eq, not_false_eq_true, Option.map_some, Option.map_none, List.map_cons, List.map_nil, Bool.not_true, Bool.not_false, decide_true, decide_false, List.getElem?_cons_zero, List.getElem?_cons_succ, ↓aw1, ↓aw2, ↓aw17, aw3, aw4, aw5, aw6, aw7, aw8, aw9, aw10, aw11, aw12, aw13, aw14, aw15, aw16, aw19, Nat.reduceLeDiff, if_true, if_false, Nat.reduceEqDiff, Nat.reduceAdd, beq_self_eq_true, beq_true, beq_false, Bool.false_eq_true]
    have hp : pk s.data.toList 0 = c := by rw [bytes_get] at hc; simp only [pk]; rw [show s.data.toList[0]? = some c from hc]; rfl
    exact Fin.same0 hcl (by simp [AV.under]) ⟨by rw [hp]; simp [lt97], rfl⟩
theorem lower_ev (s : ByteArray) (h : List AObj) (hsz : s.size < 2 ^ 60) : EvR E0 36 [.lit (.string s)] h (boolv (whl s.data.toList && !lt97 (pk s.data.toList 0))) := by
  refine ev_of (fn := Tryd.f36) (hs := []) Tryd.func36 c36 (by simp) fun hcl => ?_
  simp only [ac36, ne_eq, not_false_eq_true, Option.map_some, Option.map_none, List.map_cons, List.map_nil, Bool.not_true, Bool.not_false, decide_true, decide_false, List.getElem?_cons_zero, List.getElem?_cons_succ, ↓aw1, ↓aw2, ↓aw17, aw3, aw4, aw5, aw6, aw7, aw8, aw9, aw10, aw11, aw12, aw13, aw14, aw15, aw16, aw19, Nat.reduceLeDiff, if_true, if_false, Nat.reduceEqDiff, Nat.reduceAdd, beq_self_eq_true, beq_true, beq_false, Bool.false_eq_true]
  refine EvF.ret (whole_ev s h hsz) ?_
  cases hw : whl s.data.toList
  · simp only [ne_eq, not_false_eq_true, Option.map_some, Option.map_none, List.map_cons, List.map_nil, Bool.not_true, Bool.not_false, decide_true, decide_false, List.getElem?_cons_zero, List.getElem?_cons_succ, ↓aw1, ↓aw2, ↓aw17, aw3, aw4, aw5, aw6, aw7, aw8, aw9, aw10, aw11, aw12, aw13, aw14, aw15, aw16, aw19, Nat.reduceLeDiff, if_true, if_false, Nat.reduceEqDiff, Nat.reduceAdd, beq_self_eq_true, beq_true, beq_false, Bool.false_eq_true]
    exact Fin.same0 hcl (by simp [AV.under]) ⟨by simp, rfl⟩
  · simp only [ne_eq, not_false_eq_true, Option.map_some, Option.map_none, List.map_cons, List.map_nil, Bool.not_true, Bool.not_false, decide_true, decide_false, List.getElem?_cons_zero, List.getElem?_cons_succ, ↓aw1, ↓aw2, ↓aw17, aw3, aw4, aw5, aw6, aw7, aw8, aw9, aw10, aw11, aw12, aw13, aw14, aw15, aw16, aw19, Nat.reduceLeDiff, if_true, if_false, Nat.reduceEqDiff, Nat.reduceAdd, beq_self_eq_true, beq_true, beq_false, Bool.false_eq_true]
    refine Need.mk ⟨by omega, pos_of hw⟩ fun c hc => ?_
    simp only [ne_eq, not_false_eq_true, Option.map_some, Option.map_none, List.map_cons, List.map_nil, Bool.not_true, Bool.not_false, decide_true, decide_false, List.getElem?_cons_zero, List.getElem?_cons_succ, ↓aw1, ↓aw2, ↓aw17, aw3, aw4, aw5, aw6, aw7, aw8, aw9, aw10, aw11, aw12, aw13, aw14, aw15, aw16, aw19, Nat.reduceLeDiff, if_true, if_false, Nat.reduceEqDiff, Nat.reduceAdd, beq_self_eq_true, beq_true, beq_false, Bool.false_eq_true]
    have hp : pk s.data.toList 0 = c := by rw [bytes_get] at hc; simp only [pk]; rw [show s.data.toList[0]? = some c from hc]; rfl
    refine Fin.same0 hcl (by simp [AV.under]) ⟨?_, rfl⟩
    rw [hp]
    simp only [lt97, Bool.true_and, boolv]
    congr 3
    rw [Bool.eq_iff_iff]
    simp

/-! ### The reference -/

theorem all_u8 {p : UInt8 → Bool} (h : (List.range 256).all (fun n => p (UInt8.ofNat n)) = true) (c : UInt8) : p c = true := by
  rw [List.all_eq_true] at h
  have := h c.toNat (by simp; exact c.toNat_lt)
  simpa using this

theorem rlet_eq (c : UInt8) : ((decide ((97 : Int) ≤ (c.toNat : Int)) && decide ((c.toNat : Int) ≤ 122)) || (decide ((65 : Int) ≤ (c.toNat : Int)) && decide ((c.toNat : Int) ≤ 90))) = isLet c := by
  have := all_u8 (p := fun c => ((decide ((97 : Int) ≤ (c.toNat : Int)) && decide ((c.toNat : Int) ≤ 122)) || (decide ((65 : Int) ≤ (c.toNat : Int)) && decide ((c.toNat : Int) ≤ 90))) == isLet c) (by decide +kernel) c
  simpa using this

theorem rletter_ev (c : UInt8) (h : List AObj) : EvR E0 74 [u8v c] h (boolv (isLet c)) := by
  refine ev_of (fn := Tryd.f74) (hs := []) Tryd.func74 c74 (by simp) fun hcl => ?_
  rw [← rlet_eq c]
  simp only [ac74, ne_eq, not_false_eq_true, Option.map_some, Option.map_none, List.map_cons, List.map_nil, Bool.not_true, Bool.not_false, decide_true, decide_false, List.getElem?_cons_zero, List.getElem?_cons_succ, ↓aw1, ↓aw2, ↓aw17, aw3, aw4, aw5, aw6, aw7, aw8, aw9, aw10, aw11, aw12, aw13, aw14, aw15, aw16, aw19, Nat.reduceLeDiff, if_true, if_false, Nat.reduceEqDiff, Nat.reduceAdd, beq_self_eq_true, beq_true, beq_false, Bool.false_eq_true]
  cases h1 : decide ((97 : Int) ≤ (c.toNat : Int)) <;> cases h2 : decide ((c.toNat : Int) ≤ 122) <;> cases h3 : decide ((65 : Int) ≤ (c.toNat : Int)) <;> cases h4 : decide ((c.toNat : Int) ≤ 90)
  all_goals simp only [h1, h2, h3, h4, ne_eq, not_false_eq_true, Option.map_some, Option.map_none, List.map_cons, List.map_nil, Bool.not_true, Bool.not_false, decide_true, decide_false, List.getElem?_cons_zero, List.getElem?_cons_succ, ↓aw1, ↓aw2, ↓aw17, aw3, aw4, aw5, aw6, aw7, aw8, aw9, aw10, aw11, aw12, aw13, aw14, aw15, aw16, aw19, Nat.reduceLeDiff, if_true, if_false, Nat.reduceEqDiff, Nat.reduceAdd, beq_self_eq_true, beq_true, beq_false, Bool.false_eq_true]
  all_goals exact Fin.same0 hcl (by simp [AV.under]) ⟨rfl, rfl⟩

theorem rdigit_ev (c : UInt8) (h : List AObj) : EvR E0 75 [u8v c] h (boolv (isDig c)) := by
  refine ev_of (fn := Tryd.f75) (hs := []) Tryd.func75 c75 (by simp) fun hcl => ?_
  simp only [ac75, ne_eq, not_false_eq_true, Option.map_some, Option.map_none, List.map_cons, List.map_nil, Bool.not_true, Bool.not_false, decide_true, decide_false, List.getElem?_cons_zero, List.getElem?_cons_succ, ↓aw1, ↓aw2, ↓aw17, aw3, aw4, aw5, aw6, aw7, aw8, aw9, aw10, aw11, aw12, aw13, aw14, aw15, aw16, aw19, Nat.reduceLeDiff, if_true, if_false, Nat.reduceEqDiff, Nat.reduceAdd, beq_self_eq_true, beq_true, beq_false, Bool.false_eq_true]
  refine BrF.mk (fun hb => ?_) (fun hb => ?_)
  all_goals simp only [hb, ne_eq, not_false_eq_true, Option.map_some, Option.map_none, List.map_cons, List.map_nil, Bool.not_true, Bool.not_false, decide_true, decide_false, List.getElem?_cons_zero, List.getElem?_cons_succ, ↓aw1, ↓aw2, ↓aw17, aw3, aw4, aw5, aw6, aw7, aw8, aw9, aw10, aw11, aw12, aw13, aw14, aw15, aw16, aw19, Nat.reduceLeDiff, if_true, if_false, Nat.reduceEqDiff, Nat.reduceAdd, beq_self_eq_true, beq_true, beq_false, Bool.false_eq_true]
  all_goals exact Fin.same0 hcl (by simp [AV.under]) ⟨by simp only [isDig, boolv, hb, Bool.true_and, Bool.false_and], rfl⟩

/-- The reference's word, from the n-th character on. -/
def rl (b : List UInt8) : Nat → Nat → Int
  | 0, n => n
  | f + 1, n =>
    if b.length ≤ n then n
    else if isLet (pk b n) || isDig (pk b n) then rl b f (n + 1)
    else if !isC 45 (pk b n) || (decide (n + 1 < b.length) && isC 45 (pk b (n + 1))) then n
    else if decide (n + 1 = b.length) || (!isLet (pk b (n + 1)) && !isDig (pk b (n + 1))) then -1
    else rl b f (n + 1)

def rword (b : List UInt8) : Int := if b.length = 0 then 0 else if !isLet (pk b 0) then 0 else rl b b.length 1

theorem pk_get {b : List UInt8} {n : Nat} {c : UInt8} (h : b[n]? = some c) : pk b n = c := by simp [pk, h]

theorem rword_ev (s : ByteArray) (h : List AObj) (hsz : s.size < 2 ^ 60) : EvR E0 58 [.lit (.string s)] h (i64 (rword s.data.toList)) := by
  refine ev_of (fn := Tryd.f58) (hs := []) Tryd.func58 c58 (by simp) fun hcl => ?_
  generalize hb : s.data.toList = b
  have hlen : b.length = s.size := by rw [← hb]; simp
  have hget : ∀ i, s[i]? = b[i]? := fun i => by rw [bytes_get, hb]
  by_cases h0 : s.size = 0
  · have e0 : decide ((s.size : Int) = 0) = true := by simpa using h0
    simp only [ac58, e0, ne_eq, not_false_eq_true, Option.map_some, Option.map_none, List.map_cons, List.map_nil, Bool.not_true, Bool.not_false, decide_true, decide_false, List.getElem?_cons_zero, List.getElem?_cons_succ, ↓aw1, ↓aw2, ↓aw17, aw3, aw4, aw5, aw6, aw7, aw8, aw9, aw10, aw11, aw12, aw13, aw14, aw15, aw16, aw19, Nat.reduceLeDiff, if_true, if_false, Nat.reduceEqDiff, Nat.reduceAdd, beq_self_eq_true, beq_true, beq_false, Bool.false_eq_true]
    exact Fin.same0 hcl (by simp [AV.under]) ⟨by simp only [rword]; rw [if_pos (by omega)], rfl⟩
  have e0 : decide ((s.size : Int) = 0) = false := by simpa using h0
  simp only [ac58, e0, ne_eq, not_false_eq_true, Option.map_some, Option.map_none, List.map_cons, List.map_nil, Bool.not_true, Bool.not_false, decide_true, decide_false, List.getElem?_cons_zero, List.getElem?_cons_succ, ↓aw1, ↓aw2, ↓aw17, aw3, aw4, aw5, aw6, aw7, aw8, aw9, aw10, aw11, aw12, aw13, aw14, aw15, aw16, aw19, Nat.reduceLeDiff, if_true, if_false, Nat.reduceEqDiff, Nat.reduceAdd, beq_self_eq_true, beq_true, beq_false, Bool.false_eq_true]
  refine Need.mk (by omega) fun c hc => ?_
  rw [hget] at hc
  have hpc := pk_get hc
  simp only [ne_eq, not_false_eq_true, Option.map_some, Option.map_none, List.map_cons, List.map_nil, Bool.not_true, Bool.not_false, decide_true, decide_false, List.getElem?_cons_zero, List.getElem?_cons_succ, ↓aw1, ↓aw2, ↓aw17, aw3, aw4, aw5, aw6, aw7, aw8, aw9, aw10, aw11, aw12, aw13, aw14, aw15, aw16, aw19, Nat.reduceLeDiff, if_true, if_false, Nat.reduceEqDiff, Nat.reduceAdd, beq_self_eq_true, beq_true, beq_false, Bool.false_eq_true]
  refine EvF.ret (rletter_ev c h) ?_
  cases hl : isLet c
  · simp only [ne_eq, not_false_eq_true, Option.map_some, Option.map_none, List.map_cons, List.map_nil, Bool.not_true, Bool.not_false, decide_true, decide_false, List.getElem?_cons_zero, List.getElem?_cons_succ, ↓aw1, ↓aw2, ↓aw17, aw3, aw4, aw5, aw6, aw7, aw8, aw9, aw10, aw11, aw12, aw13, aw14, aw15, aw16, aw19, Nat.reduceLeDiff, if_true, if_false, Nat.reduceEqDiff, Nat.reduceAdd, beq_self_eq_true, beq_true, beq_false, Bool.false_eq_true]
    exact Fin.same0 hcl (by simp [AV.under]) ⟨by simp only [rword]; rw [if_neg (by omega), show pk b 0 = c from hpc, hl]; rfl, rfl⟩
  generalize hR : rword b = R
  have hR0 : rl b b.length 1 = R := by rw [← hR, rword, if_neg (by omega), show pk b 0 = c from hpc, hl]; rfl
  simp only [ne_eq, not_false_eq_true, Option.map_some, Option.map_none, List.map_cons, List.map_nil, Bool.not_true, Bool.not_false, decide_true, decide_false, List.getElem?_cons_zero, List.getElem?_cons_succ, ↓aw1, ↓aw2, ↓aw17, aw3, aw4, aw5, aw6, aw7, aw8, aw9, aw10, aw11, aw12, aw13, aw14, aw15, aw16, aw19, Nat.reduceLeDiff, if_true, if_false, Nat.reduceEqDiff, Nat.reduceAdd, beq_self_eq_true, beq_true, beq_false, Bool.false_eq_true]
  refine LoopF.by (α := Nat × Nat) (fun x => ⟨[(0, .lit (.string s)), (3, i64 x.1)], h⟩) (fun x => x.2)
    (fun x => b.length ≤ x.1 + x.2 ∧ x.1 ≤ b.length ∧ rl b x.2 x.1 = R)
    (1, b.length) ⟨by simp, by simp; omega, hR0⟩ (weak_of rfl (by simp [look])) ?_
  rintro ⟨n, f⟩ ⟨h1, h2, h3⟩
  simp only at h1 h2 h3
  by_cases hn : b.length ≤ n
  · have e1 : decide ((n : Int) < (s.size : Int)) = false := by simp; omega
    simp only [e1, ne_eq, not_false_eq_true, Option.map_some, Option.map_none, List.map_cons, List.map_nil, Bool.not_true, Bool.not_false, decide_true, decide_false, List.getElem?_cons_zero, List.getElem?_cons_succ, ↓aw1, ↓aw2, ↓aw17, aw3, aw4, aw5, aw6, aw7, aw8, aw9, aw10, aw11, aw12, aw13, aw14, aw15, aw16, aw19, Nat.reduceLeDiff, if_true, if_false, Nat.reduceEqDiff, Nat.reduceAdd, beq_self_eq_true, beq_true, beq_false, Bool.false_eq_true]
    refine Fin.same0 hcl (by simp [AV.under]) ⟨?_, rfl⟩
    have : rl b f n = n := by cases f <;> simp [rl, hn]
    rw [← h3, this]
  obtain ⟨f, rfl⟩ : ∃ f', f = f' + 1 := ⟨f - 1, by omega⟩
  have e1 : decide ((n : Int) < (s.size : Int)) = true := by simp; omega
  have hw : IntKind.i64.wrap ((n : Int) + 1) = ((n + 1 : Nat) : Int) := by rw [wrap_i64] <;> omega
  simp only [rl, if_neg hn] at h3
  simp only [e1, ne_eq, not_false_eq_true, Option.map_some, Option.map_none, List.map_cons, List.map_nil, Bool.not_true, Bool.not_false, decide_true, decide_false, List.getElem?_cons_zero, List.getElem?_cons_succ, ↓aw1, ↓aw2, ↓aw17, aw3, aw4, aw5, aw6, aw7, aw8, aw9, aw10, aw11, aw12, aw13, aw14, aw15, aw16, aw19, Nat.reduceLeDiff, if_true, if_false, Nat.reduceEqDiff, Nat.reduceAdd, beq_self_eq_true, beq_true, beq_false, Bool.false_eq_true]
  refine Need.mk (by omega) fun c hc => ?_
  rw [hget, Int.toNat_natCast] at hc
  have hpc := pk_get hc
  simp only [hpc] at h3
  have again : ∀ σ, σ.heap = h → (∀ p, p ∈ [(0, AV.lit (.string s)), (3, i64 ((n + 1 : Nat) : Int))] → look σ.tmps p.1 = p.2) → rl b f (n + 1) = R →
      ∃ y : Nat × Nat, (b.length ≤ y.1 + y.2 ∧ y.1 ≤ b.length ∧ rl b y.2 y.1 = R) ∧ y.2 < f + 1 ∧ Weak σ ⟨[(0, .lit (.string s)), (3, i64 y.1)], h⟩ :=
    fun σ hh hl hr => ⟨(n + 1, f), ⟨by simp; omega, by simp; omega, hr⟩, by simp, weak_of hh.symm hl⟩
  simp only [ne_eq, not_false_eq_true, Option.map_some, Option.map_none, List.map_cons, List.map_nil, Bool.not_true, Bool.not_false, decide_true, decide_false, List.getElem?_cons_zero, List.getElem?_cons_succ, ↓aw1, ↓aw2, ↓aw17, aw3, aw4, aw5, aw6, aw7, aw8, aw9, aw10, aw11, aw12, aw13, aw14, aw15, aw16, aw19, Nat.reduceLeDiff, if_true, if_false, Nat.reduceEqDiff, Nat.reduceAdd, beq_self_eq_true, beq_true, beq_false, Bool.false_eq_true]
  refine EvF.ret (rletter_ev c h) ?_
  cases hl : isLet c
  · simp only [ne_eq, not_false_eq_true, Option.map_some, Option.map_none, List.map_cons, List.map_nil, Bool.not_true, Bool.not_false, decide_true, decide_false, List.getElem?_cons_zero, List.getElem?_cons_succ, ↓aw1, ↓aw2, ↓aw17, aw3, aw4, aw5, aw6, aw7, aw8, aw9, aw10, aw11, aw12, aw13, aw14, aw15, aw16, aw19, Nat.reduceLeDiff, if_true, if_false, Nat.reduceEqDiff, Nat.reduceAdd, beq_self_eq_true, beq_true, beq_false, Bool.false_eq_true]
    refine Need.mk (by omega) fun c' hc' => ?_
    rw [hget, Int.toNat_natCast, hc] at hc'
    cases hc'
    simp only [ne_eq, not_false_eq_true, Option.map_some, Option.map_none, List.map_cons, List.map_nil, Bool.not_true, Bool.not_false, decide_true, decide_false, List.getElem?_cons_zero, List.getElem?_cons_succ, ↓aw1, ↓aw2, ↓aw17, aw3, aw4, aw5, aw6, aw7, aw8, aw9, aw10, aw11, aw12, aw13, aw14, aw15, aw16, aw19, Nat.reduceLeDiff, if_true, if_false, Nat.reduceEqDiff, Nat.reduceAdd, beq_self_eq_true, beq_true, beq_false, Bool.false_eq_true]
    refine EvF.ret (rdigit_ev c h) ?_
    cases hd : isDig c
    · simp only [ne_eq, not_false_eq_true, Option.map_some, Option.map_none, List.map_cons, List.map_nil, Bool.not_true, Bool.not_false, decide_true, decide_false, List.getElem?_cons_zero, List.getElem?_cons_succ, ↓aw1, ↓aw2, ↓aw17, aw3, aw4, aw5, aw6, aw7, aw8, aw9, aw10, aw11, aw12, aw13, aw14, aw15, aw16, aw19, Nat.reduceLeDiff, if_true, if_false, Nat.reduceEqDiff, Nat.reduceAdd, beq_self_eq_true, beq_true, beq_false, Bool.false_eq_true]
      refine Need.mk (by omega) fun c' hc' => ?_
      rw [hget, Int.toNat_natCast, hc] at hc'
      cases hc'
      simp only [ne_eq, not_false_eq_true, Option.map_some, Option.map_none, List.map_cons, List.map_nil, Bool.not_true, Bool.not_false, decide_true, decide_false, List.getElem?_cons_zero, List.getElem?_cons_succ, ↓aw1, ↓aw2, ↓aw17, aw3, aw4, aw5, aw6, aw7, aw8, aw9, aw10, aw11, aw12, aw13, aw14, aw15, aw16, aw19, Nat.reduceLeDiff, if_true, if_false, Nat.reduceEqDiff, Nat.reduceAdd, beq_self_eq_true, beq_true, beq_false, Bool.false_eq_true]
      cases h45 : isC 45 c
      · have h45' : decide ((c.toNat : Int) = 45) = false := h45
        simp only [h45', ne_eq, not_false_eq_true, Option.map_some, Option.map_none, List.map_cons, List.map_nil, Bool.not_true, Bool.not_false, decide_true, decide_false, List.getElem?_cons_zero, List.getElem?_cons_succ, ↓aw1, ↓aw2, ↓aw17, aw3, aw4, aw5, aw6, aw7, aw8, aw9, aw10, aw11, aw12, aw13, aw14, aw15, aw16, aw19, Nat.reduceLeDiff, if_true, if_false, Nat.reduceEqDiff, Nat.reduceAdd, beq_self_eq_true, beq_true, beq_false, Bool.false_eq_true]
        simp [hl, hd, h45] at h3
        exact Fin.same0 hcl (by simp [AV.under]) ⟨by rw [← h3], rfl⟩
      · have h45' : decide ((c.toNat : Int) = 45) = true := h45
        simp only [h45', hw, ne_eq, not_false_eq_true, Option.map_some, Option.map_none, List.map_cons, List.map_nil, Bool.not_true, Bool.not_false, decide_true, decide_false, List.getElem?_cons_zero, List.getElem?_cons_succ, ↓aw1, ↓aw2, ↓aw17, aw3, aw4, aw5, aw6, aw7, aw8, aw9, aw10, aw11, aw12, aw13, aw14, aw15, aw16, aw19, Nat.reduceLeDiff, if_true, if_false, Nat.reduceEqDiff, Nat.reduceAdd, beq_self_eq_true, beq_true, beq_false, Bool.false_eq_true]
        by_cases hn1 : n + 1 < b.length
        · have e2 : decide (((n + 1 : Nat) : Int) < (s.size : Int)) = true := by simp; omega
          have e3 : decide (((n + 1 : Nat) : Int) = (s.size : Int)) = false := by simp; omega
          simp only [e2, hw, ne_eq, not_false_eq_true, Option.map_some, Option.map_none, List.map_cons, List.map_nil, Bool.not_true, Bool.not_false, decide_true, decide_false, List.getElem?_cons_zero, List.getElem?_cons_succ, ↓aw1, ↓aw2, ↓aw17, aw3, aw4, aw5, aw6, aw7, aw8, aw9, aw10, aw11, aw12, aw13, aw14, aw15, aw16, aw19, Nat.reduceLeDiff, if_true, if_false, Nat.reduceEqDiff, Nat.reduceAdd, beq_self_eq_true, beq_true, beq_false, Bool.false_eq_true]
          refine Need.mk (by omega) fun d hd' => ?_
          rw [hget, Int.toNat_natCast] at hd'
          have hpd := pk_get hd'
          simp only [hpd] at h3
          simp only [ne_eq, not_false_eq_true, Option.map_some, Option.map_none, List.map_cons, List.map_nil, Bool.not_true, Bool.not_false, decide_true, decide_false, List.getElem?_cons_zero, List.getElem?_cons_succ, ↓aw1, ↓aw2, ↓aw17, aw3, aw4, aw5, aw6, aw7, aw8, aw9, aw10, aw11, aw12, aw13, aw14, aw15, aw16, aw19, Nat.reduceLeDiff, if_true, if_false, Nat.reduceEqDiff, Nat.reduceAdd, beq_self_eq_true, beq_true, beq_false, Bool.false_eq_true]
          cases g45 : isC 45 d
          · have g45' : decide ((d.toNat : Int) = 45) = false := g45
            simp only [g45', hw, e3, ne_eq, not_false_eq_true, Option.map_some, Option.map_none, List.map_cons, List.map_nil, Bool.not_true, Bool.not_false, decide_true, decide_false, List.getElem?_cons_zero, List.getElem?_cons_succ, ↓aw1, ↓aw2, ↓aw17, aw3, aw4, aw5, aw6, aw7, aw8, aw9, aw10, aw11, aw12, aw13, aw14, aw15, aw16, aw19, Nat.reduceLeDiff, if_true, if_false, Nat.reduceEqDiff, Nat.reduceAdd, beq_self_eq_true, beq_true, beq_false, Bool.false_eq_true]
            refine Need.mk (by omega) fun d2 hd2 => ?_
            rw [hget, Int.toNat_natCast, hd'] at hd2
            cases hd2
            simp only [ne_eq, not_false_eq_true, Option.map_some, Option.map_none, List.map_cons, List.map_nil, Bool.not_true, Bool.not_false, decide_true, decide_false, List.getElem?_cons_zero, List.getElem?_cons_succ, ↓aw1, ↓aw2, ↓aw17, aw3, aw4, aw5, aw6, aw7, aw8, aw9, aw10, aw11, aw12, aw13, aw14, aw15, aw16, aw19, Nat.reduceLeDiff, if_true, if_false, Nat.reduceEqDiff, Nat.reduceAdd, beq_self_eq_true, beq_true, beq_false, Bool.false_eq_true]
            refine EvF.ret (rletter_ev d h) ?_
            have hne : ¬ n + 1 = b.length := by omega
            cases hld : isLet d
            · simp only [hw, ne_eq, not_false_eq_true, Option.map_some, Option.map_none, List.map_cons, List.map_nil, Bool.not_true, Bool.not_false, decide_true, decide_false, List.getElem?_cons_zero, List.getElem?_cons_succ, ↓aw1, ↓aw2, ↓aw17, aw3, aw4, aw5, aw6, aw7, aw8, aw9, aw10, aw11, aw12, aw13, aw14, aw15, aw16, aw19, Nat.reduceLeDiff, if_true, if_false, Nat.reduceEqDiff, Nat.reduceAdd, beq_self_eq_true, beq_true, beq_false, Bool.false_eq_true]
              refine Need.mk (by omega) fun d2 hd2 => ?_
              rw [hget, Int.toNat_natCast, hd'] at hd2
              cases hd2
              simp only [ne_eq, not_false_eq_true, Option.map_some, Option.map_none, List.map_cons, List.map_nil, Bool.not_true, Bool.not_false, decide_true, decide_false, List.getElem?_cons_zero, List.getElem?_cons_succ, ↓aw1, ↓aw2, ↓aw17, aw3, aw4, aw5, aw6, aw7, aw8, aw9, aw10, aw11, aw12, aw13, aw14, aw15, aw16, aw19, Nat.reduceLeDiff, if_true, if_false, Nat.reduceEqDiff, Nat.reduceAdd, beq_self_eq_true, beq_true, beq_false, Bool.false_eq_true]
              refine EvF.ret (rdigit_ev d h) ?_
              cases hdd : isDig d
              · simp only [ne_eq, not_false_eq_true, Option.map_some, Option.map_none, List.map_cons, List.map_nil, Bool.not_true, Bool.not_false, decide_true, decide_false, List.getElem?_cons_zero, List.getElem?_cons_succ, ↓aw1, ↓aw2, ↓aw17, aw3, aw4, aw5, aw6, aw7, aw8, aw9, aw10, aw11, aw12, aw13, aw14, aw15, aw16, aw19, Nat.reduceLeDiff, if_true, if_false, Nat.reduceEqDiff, Nat.reduceAdd, beq_self_eq_true, beq_true, beq_false, Bool.false_eq_true]
                simp [hl, hd, h45, hn1, g45, hld, hdd] at h3
                exact Fin.same0 hcl (by simp [AV.under]) ⟨by rw [← h3], rfl⟩
              · simp only [hw, ne_eq, not_false_eq_true, Option.map_some, Option.map_none, List.map_cons, List.map_nil, Bool.not_true, Bool.not_false, decide_true, decide_false, List.getElem?_cons_zero, List.getElem?_cons_succ, ↓aw1, ↓aw2, ↓aw17, aw3, aw4, aw5, aw6, aw7, aw8, aw9, aw10, aw11, aw12, aw13, aw14, aw15, aw16, aw19, Nat.reduceLeDiff, if_true, if_false, Nat.reduceEqDiff, Nat.reduceAdd, beq_self_eq_true, beq_true, beq_false, Bool.false_eq_true]
                simp [hl, hd, h45, hn1, g45, hld, hdd, hne] at h3
                exact again _ rfl (by simp [look]) h3
            · simp only [hw, ne_eq, not_false_eq_true, Option.map_some, Option.map_none, List.map_cons, List.map_nil, Bool.not_true, Bool.not_false, decide_true, decide_false, List.getElem?_cons_zero, List.getElem?_cons_succ, ↓aw1, ↓aw2, ↓aw17, aw3, aw4, aw5, aw6, aw7, aw8, aw9, aw10, aw11, aw12, aw13, aw14, aw15, aw16, aw19, Nat.reduceLeDiff, if_true, if_false, Nat.reduceEqDiff, Nat.reduceAdd, beq_self_eq_true, beq_true, beq_false, Bool.false_eq_true]
              simp [hl, hd, h45, hn1, g45, hld, hne] at h3
              exact again _ rfl (by simp [look]) h3
          · have g45' : decide ((d.toNat : Int) = 45) = true := g45
            simp only [g45', ne_eq, not_false_eq_true, Option.map_some, Option.map_none, List.map_cons, List.map_nil, Bool.not_true, Bool.not_false, decide_true, decide_false, List.getElem?_cons_zero, List.getElem?_cons_succ, ↓aw1, ↓aw2, ↓aw17, aw3, aw4, aw5, aw6, aw7, aw8, aw9, aw10, aw11, aw12, aw13, aw14, aw15, aw16, aw19, Nat.reduceLeDiff, if_true, if_false, Nat.reduceEqDiff, Nat.reduceAdd, beq_self_eq_true, beq_true, beq_false, Bool.false_eq_true]
            simp [hl, hd, h45, hn1, g45] at h3
            exact Fin.same0 hcl (by simp [AV.under]) ⟨by rw [← h3], rfl⟩
        · have e2 : decide (((n + 1 : Nat) : Int) < (s.size : Int)) = false := by simp; omega
          have e3 : decide (((n + 1 : Nat) : Int) = (s.size : Int)) = true := by simp; omega
          simp only [e2, e3, hw, ne_eq, not_false_eq_true, Option.map_some, Option.map_none, List.map_cons, List.map_nil, Bool.not_true, Bool.not_false, decide_true, decide_false, List.getElem?_cons_zero, List.getElem?_cons_succ, ↓aw1, ↓aw2, ↓aw17, aw3, aw4, aw5, aw6, aw7, aw8, aw9, aw10, aw11, aw12, aw13, aw14, aw15, aw16, aw19, Nat.reduceLeDiff, if_true, if_false, Nat.reduceEqDiff, Nat.reduceAdd, beq_self_eq_true, beq_true, beq_false, Bool.false_eq_true]
          have hne : n + 1 = b.length := by omega
          simp [hl, hd, h45, hne] at h3
          exact Fin.same0 hcl (by simp [AV.under]) ⟨by rw [← h3], rfl⟩
    · simp only [hw, ne_eq, not_false_eq_true, Option.map_some, Option.map_none, List.map_cons, List.map_nil, Bool.not_true, Bool.not_false, decide_true, decide_false, List.getElem?_cons_zero, List.getElem?_cons_succ, ↓aw1, ↓aw2, ↓aw17, aw3, aw4, aw5, aw6, aw7, aw8, aw9, aw10, aw11, aw12, aw13, aw14, aw15, aw16, aw19, Nat.reduceLeDiff, if_true, if_false, Nat.reduceEqDiff, Nat.reduceAdd, beq_self_eq_true, beq_true, beq_false, Bool.false_eq_true]
      simp [hl, hd] at h3
      exact again _ rfl (by simp [look]) h3
  · simp only [hw, ne_eq, not_false_eq_true, Option.map_some, Option.map_none, List.map_cons, List.map_nil, Bool.not_true, Bool.not_false, decide_true, decide_false, List.getElem?_cons_zero, List.getElem?_cons_succ, ↓aw1, ↓aw2, ↓aw17, aw3, aw4, aw5, aw6, aw7, aw8, aw9, aw10, aw11, aw12, aw13, aw14, aw15, aw16, aw19, Nat.reduceLeDiff, if_true, if_false, Nat.reduceEqDiff, Nat.reduceAdd, beq_self_eq_true, beq_true, beq_false, Bool.false_eq_true]
    simp [hl] at h3
    exact again _ rfl (by simp [look]) h3
end Go.Abs.Fr

namespace Go.Abs.Fr
open Go Go.Abs Go.Proofs
set_option linter.unusedSimpArgs false
set_option maxRecDepth 100000

theorem pk_none {b : List UInt8} {n : Nat} (h : b.length ≤ n) : pk b n = 0 := by simp [pk, List.getElem?_eq_none h]

theorem wl_rl (b : List UInt8) : ∀ (f n f' : Nat), n ≤ b.length → b.length ≤ n + f → b.length < n + f' →
    ((wl (fun k => pk b k) f' n).2 && decide ((wl (fun k => pk b k) f' n).1 = b.length)) = decide (rl b f n = (b.length : Int))
  | f, n, 0, h1, h2, h3 => by omega
  | 0, n, f' + 1, h1, h2, h3 => by
    have hn : b.length ≤ n := by omega
    have hw : wl (fun k => pk b k) (f' + 1) n = (n, true) := by
      simp [wl, pk_none hn, show isLet 0 = false from rfl, show isDig 0 = false from rfl, show isC 45 0 = false from rfl]
    rw [hw]
    have e : n = b.length := by omega
    simp [rl, e]
  | f + 1, n, f' + 1, h1, h2, h3 => by
    by_cases hn : b.length ≤ n
    · have hw : wl (fun k => pk b k) (f' + 1) n = (n, true) := by
        simp [wl, pk_none hn, show isLet 0 = false from rfl, show isDig 0 = false from rfl, show isC 45 0 = false from rfl]
      rw [hw]
      have e : n = b.length := by omega
      simp [rl, e]
    · have ih := wl_rl b f (n + 1) f' (by omega) (by omega) (by omega)
      have hne : ¬ n = b.length := by omega
      have hne' : ¬ (n : Int) = (b.length : Int) := by omega
      simp only [wl, rl, if_neg hn]
      cases hl : isLet (pk b n)
      · cases hd : isDig (pk b n)
        · cases h45 : isC 45 (pk b n)
          · simp [hne, hne']
          · by_cases hn1 : n + 1 < b.length
            · have hne1 : ¬ n + 1 = b.length := by omega
              cases g45 : isC 45 (pk b (n + 1))
              · cases hld : isLet (pk b (n + 1))
                · cases hdd : isDig (pk b (n + 1))
                  · simp [hn1, hne1]
                  · simpa [hn1, hne1] using ih
                · simpa [hn1, hne1] using ih
              · simp [hn1, hne, hne']
            · have hz := pk_none (b := b) (n := n + 1) (by omega)
              have e : decide (n + 1 = b.length) = true := by simp; omega
              simp only [hz, hn1, e, show isLet 0 = false from rfl, show isDig 0 = false from rfl, show isC 45 0 = false from rfl]
              simp
        · simpa using ih
      · simpa using ih

theorem whl_rword (b : List UInt8) : whl b = (decide (0 < b.length) && decide (rword b = (b.length : Int))) := by
  unfold whl rword
  by_cases h0 : b.length = 0
  · have : b = [] := List.length_eq_zero_iff.1 h0
    subst this
    decide
  · rw [if_neg h0]
    have hp : 0 < b.length := by omega
    have := wl_rl b b.length 1 (b.length + 1) (by omega) (by omega) (by omega)
    cases hl : isLet (pk b 0)
    · simp
      intro _ h; omega
    · simp only [Bool.true_and, this]
      simp [hp]

theorem rupper_ev (s : ByteArray) (h : List AObj) (hsz : s.size < 2 ^ 60) : EvR E0 59 [.lit (.string s)] h (boolv (whl s.data.toList && lt97 (pk s.data.toList 0))) := by
  refine ev_of (fn := Tryd.f59) (hs := []) Tryd.func59 c59 (by simp) fun hcl => ?_
  have hlen : s.data.toList.length = s.size := by simp
  rw [whl_rword, hlen]
  simp only [ac59, ne_eq, not_false_eq_true, Option.map_some, Option.map_none, List.map_cons, List.map_nil, Bool.not_true, Bool.not_false, decide_true, decide_false, List.getElem?_cons_zero, List.getElem?_cons_succ, ↓aw1, ↓aw2, ↓aw17, aw3, aw4, aw5, aw6, aw7, aw8, aw9, aw10, aw11, aw12, aw13, aw14, aw15, aw16, aw19, Nat.reduceLeDiff, if_true, if_false, Nat.reduceEqDiff, Nat.reduceAdd, beq_self_eq_true, beq_true, beq_false, Bool.false_eq_true]
  by_cases h0 : s.size = 0
  · have e0 : decide ((0 : Int) < (s.size : Int)) = false := by simpa using h0
    simp only [e0, ne_eq, not_false_eq_true, Option.map_some, Option.map_none, List.map_cons, List.map_nil, Bool.not_true, Bool.not_false, decide_true, decide_false, List.getElem?_cons_zero, List.getElem?_cons_succ, ↓aw1, ↓aw2, ↓aw17, aw3, aw4, aw5, aw6, aw7, aw8, aw9, aw10, aw11, aw12, aw13, aw14, aw15, aw16, aw19, Nat.reduceLeDiff, if_true, if_false, Nat.reduceEqDiff, Nat.reduceAdd, beq_self_eq_true, beq_true, beq_false, Bool.false_eq_true]
    exact Fin.same0 hcl (by simp [AV.under]) ⟨by simp [h0], rfl⟩
  have e0 : decide ((0 : Int) < (s.size : Int)) = true := by simp; omega
  simp only [e0, ne_eq, not_false_eq_true, Option.map_some, Option.map_none, List.map_cons, List.map_nil, Bool.not_true, Bool.not_false, decide_true, decide_false, List.getElem?_cons_zero, List.getElem?_cons_succ, ↓aw1, ↓aw2, ↓aw17, aw3, aw4, aw5, aw6, aw7, aw8, aw9, aw10, aw11, aw12, aw13, aw14, aw15, aw16, aw19, Nat.reduceLeDiff, if_true, if_false, Nat.reduceEqDiff, Nat.reduceAdd, beq_self_eq_true, beq_true, beq_false, Bool.false_eq_true]
  refine EvF.ret (rword_ev s h hsz) ?_
  cases hw : decide (rword s.data.toList = (s.size : Int))
  · simp only [hw, ne_eq, not_false_eq_true, Option.map_some, Option.map_none, List.map_cons, List.map_nil, Bool.not_true, Bool.not_false, decide_true, decide_false, List.getElem?_cons_zero, List.getElem?_cons_succ, ↓aw1, ↓aw2, ↓aw17, aw3, aw4, aw5, aw6, aw7, aw8, aw9, aw10, aw11, aw12, aw13, aw14, aw15, aw16, aw19, Nat.reduceLeDiff, if_true, if_false, Nat.reduceEqDiff, Nat.reduceAdd, beq_self_eq_true, beq_true, beq_false, Bool.false_eq_true]
    exact Fin.same0 hcl (by simp [AV.under]) ⟨by simp, rfl⟩
  · simp only [hw, ne_eq, not_false_eq_true, Option.map_some, Option.map_none, List.map_cons, List.map_nil, Bool.not_true, Bool.not_false, decide_true, decide_false, List.getElem?_cons_zero, List.getElem?_cons_succ, ↓aw1, ↓aw2, ↓aw17, aw3, aw4, aw5, aw6, aw7, aw8, aw9, aw10, aw11, aw12, aw13, aw14, aw15, aw16, aw19, Nat.reduceLeDiff, if_true, if_false, Nat.reduceEqDiff, Nat.reduceAdd, beq_self_eq_true, beq_true, beq_false, Bool.false_eq_true]
    refine Need.mk (by omega) fun c hc => ?_
    simp only [ne_eq, not_false_eq_true, Option.map_some, Option.map_none, List.map_cons, List.map_nil, Bool.not_true, Bool.not_false, decide_true, decide_false, List.getElem?_cons_zero, List.getElem?_cons_succ, ↓aw1, ↓aw2, ↓aw17, aw3, aw4, aw5, aw6, aw7, aw8, aw9, aw10, aw11, aw12, aw13, aw14, aw15, aw16, aw19, Nat.reduceLeDiff, if_true, if_false, Nat.reduceEqDiff, Nat.reduceAdd, beq_self_eq_true, beq_true, beq_false, Bool.false_eq_true]
    have hp : pk s.data.toList 0 = c := by rw [bytes_get] at hc; exact pk_get hc
    refine Fin.same0 hcl (by simp [AV.under]) ⟨?_, rfl⟩
    rw [hp]
    have : 0 < s.size := by omega
    simp [lt97, this]

theorem rlower_ev (s : ByteArray) (h : List AObj) (hsz : s.size < 2 ^ 60) : EvR E0 41 [.lit (.string s)] h (boolv (whl s.data.toList && !lt97 (pk s.data.toList 0))) := by
  refine ev_of (fn := Tryd.f41) (hs := []) Tryd.func41 c41 (by simp) fun hcl => ?_
  have hlen : s.data.toList.length = s.size := by simp
  rw [whl_rword, hlen]
  simp only [ac41, ne_eq, not_false_eq_true, Option.map_some, Option.map_none, List.map_cons, List.map_nil, Bool.not_true, Bool.not_false, decide_true, decide_false, List.getElem?_cons_zero, List.getElem?_cons_succ, ↓aw1, ↓aw2, ↓aw17, aw3, aw4, aw5, aw6, aw7, aw8, aw9, aw10, aw11, aw12, aw13, aw14, aw15, aw16, aw19, Nat.reduceLeDiff, if_true, if_false, Nat.reduceEqDiff, Nat.reduceAdd, beq_self_eq_true, beq_true, beq_false, Bool.false_eq_true]
  by_cases h0 : s.size = 0
  · have e0 : decide ((0 : Int) < (s.size : Int)) = false := by simpa using h0
    simp only [e0, ne_eq, not_false_eq_true, Option.map_some, Option.map_none, List.map_cons, List.map_nil, Bool.not_true, Bool.not_false, decide_true, decide_false, List.getElem?_cons_zero, List.getElem?_cons_succ, ↓aw1, ↓aw2, ↓aw17, aw3, aw4, aw5, aw6, aw7, aw8, aw9, aw10, aw11, aw12, aw13, aw14, aw15, aw16, aw19, Nat.reduceLeDiff, if_true, if_false, Nat.reduceEqDiff, Nat.reduceAdd, beq_self_eq_true, beq_true, beq_false, Bool.false_eq_true]
    exact Fin.same0 hcl (by simp [AV.under]) ⟨by simp [h0], rfl⟩
  have e0 : decide ((0 : Int) < (s.size : Int)) = true := by simp; omega
  simp only [e0, ne_eq, not_false_eq_true, Option.map_some, Option.map_none, List.map_cons, List.map_nil, Bool.not_true, Bool.not_false, decide_true, decide_false, List.getElem?_cons_zero, List.getElem?_cons_succ, ↓aw1, ↓aw2, ↓aw17, aw3, aw4, aw5, aw6, aw7, aw8, aw9, aw10, aw11, aw12, aw13, aw14, aw15, aw16, aw19, Nat.reduceLeDiff, if_true, if_false, Nat.reduceEqDiff, Nat.reduceAdd, beq_self_eq_true, beq_true, beq_false, Bool.false_eq_true]
  refine EvF.ret (rword_ev s h hsz) ?_
  cases hw : decide (rword s.data.toList = (s.size : Int))
  · simp only [hw, ne_eq, not_false_eq_true, Option.map_some, Option.map_none, List.map_cons, List.map_nil, Bool.not_true, Bool.not_false, decide_true, decide_false, List.getElem?_cons_zero, List.getElem?_cons_succ, ↓aw1, ↓aw2, ↓aw17, aw3, aw4, aw5, aw6, aw7, aw8, aw9, aw10, aw11, aw12, aw13, aw14, aw15, aw16, aw19, Nat.reduceLeDiff, if_true, if_false, Nat.reduceEqDiff, Nat.reduceAdd, beq_self_eq_true, beq_true, beq_false, Bool.false_eq_true]
    exact Fin.same0 hcl (by simp [AV.under]) ⟨by simp, rfl⟩
  · simp only [hw, ne_eq, not_false_eq_true, Option.map_some, Option.map_none, List.map_cons, List.map_nil, Bool.not_true, Bool.not_false, decide_true, decide_false, List.getElem?_cons_zero, List.getElem?_cons_succ, ↓aw1, ↓aw2, ↓aw17, aw3, aw4, aw5, aw6, aw7, aw8, aw9, aw10, aw11, aw12, aw13, aw14, aw15, aw16, aw19, Nat.reduceLeDiff, if_true, if_false, Nat.reduceEqDiff, Nat.reduceAdd, beq_self_eq_true, beq_true, beq_false, Bool.false_eq_true]
    refine Need.mk (by omega) fun c hc => ?_
    simp only [ne_eq, not_false_eq_true, Option.map_some, Option.map_none, List.map_cons, List.map_nil, Bool.not_true, Bool.not_false, decide_true, decide_false, List.getElem?_cons_zero, List.getElem?_cons_succ, ↓aw1, ↓aw2, ↓aw17, aw3, aw4, aw5, aw6, aw7, aw8, aw9, aw10, aw11, aw12, aw13, aw14, aw15, aw16, aw19, Nat.reduceLeDiff, if_true, if_false, Nat.reduceEqDiff, Nat.reduceAdd, beq_self_eq_true, beq_true, beq_false, Bool.false_eq_true]
    have hp : pk s.data.toList 0 = c := by rw [bytes_get] at hc; exact pk_get hc
    refine Fin.same0 hcl (by simp [AV.under]) ⟨?_, rfl⟩
    rw [hp]
    have : 0 < s.size := by omega
    simp only [this, decide_true, Bool.true_and, lt97, boolv]
    congr 3
    rw [Bool.eq_iff_iff]
    simp
end Go.Abs.Fr

namespace Go.Abs.Fr
open Go Go.Abs Go.Proofs
set_option linter.unusedSimpArgs false
set_option maxRecDepth 100000

def InR (n : Int) : Prop := -9223372036854775808 ≤ n ∧ n ≤ 9223372036854775807

structure Arg where
  text : Bool
  n : Int
  s : ByteArray
  hn : InR n

inductive Stmt where
  | mk (op : Int) (name : ByteArray) (args : List Arg) (thn els : List Stmt)

structure Fun where
  name : ByteArray
  body : List Stmt

abbrev str (s : ByteArray) : AV := .lit (.string s)
def argv (a : Arg) : AV := .agg [boolv a.text, i64 a.n, str a.s]
abbrev argsv (l : List Arg) : AV := .sl .unk (l.map argv)

def Stmt.op : Stmt → Int | .mk o _ _ _ _ => o
def Stmt.name : Stmt → ByteArray | .mk _ n _ _ _ => n
def Stmt.args : Stmt → List Arg | .mk _ _ a _ _ => a
def Stmt.thn : Stmt → List Stmt | .mk _ _ _ t _ => t
def Stmt.els : Stmt → List Stmt | .mk _ _ _ _ e => e

mutual
def stmtv : Stmt → AV
  | .mk o n a t e => .agg [i64 o, str n, argsv a, .sl .unk (stmtsv t), .sl .unk (stmtsv e)]
def stmtsv : List Stmt → List AV
  | [] => []
  | s :: l => stmtv s :: stmtsv l
end

theorem stmtsv_map : ∀ (l : List Stmt), stmtsv l = l.map stmtv
  | [] => rfl
  | s :: l => by simp only [stmtsv, List.map_cons, stmtsv_map l]

abbrev bodyv (l : List Stmt) : AV := .sl .unk (l.map stmtv)
theorem stmtv_eq (s : Stmt) : stmtv s = .agg [i64 s.op, str s.name, argsv s.args, bodyv s.thn, bodyv s.els] := by
  cases s; simp only [stmtv, stmtsv_map]; rfl
def funv (f : Fun) : AV := .agg [str f.name, bodyv f.body]
abbrev funsv (l : List Fun) : AV := .sl .unk (l.map funv)

/-! ### How much there is -/
mutual
def szS : Stmt → Nat
  | .mk _ _ _ t e => 1 + szL t + szL e
def szL : List Stmt → Nat
  | [] => 0
  | s :: l => szS s + szL l
end
theorem szS_eq (s : Stmt) : szS s = 1 + szL s.thn + szL s.els := by cases s; simp only [szS]; rfl
theorem szL_mem : ∀ {l : List Stmt} {s : Stmt}, s ∈ l → szS s ≤ szL l
  | x :: l, s, h => by
    rcases List.mem_cons.1 h with rfl | h
    · simp only [szL]; omega
    · have := szL_mem h; simp only [szL]; omega
theorem szL_len : ∀ (l : List Stmt), l.length ≤ szL l
  | [] => by simp [szL]
  | s :: l => by have := szL_len l; have := szS_eq s; simp only [szL, List.length_cons]; omega

theorem sum_append (l l' : List Nat) : (l ++ l').sum = l.sum + l'.sum := by simp

theorem szL_append : ∀ (l l' : List Stmt), szL (l ++ l') = szL l + szL l'
  | [], l' => by simp [szL]
  | s :: l, l' => by simp only [List.cons_append, szL, szL_append l l']; omega

/-! ### Elements of lists of values -/
theorem map_get {α : Type} (f : α → AV) (l : List α) (i : Nat) (x : α) (h : l[i]? = some x) : (l.map f)[i]? = some (f x) := by rw [List.getElem?_map, h]; rfl

/-- Every element of a list of records of k cells. -/
theorem Elem.recs {es : List AV} {n : Nat} {P K : AV → Prop} {t' : ∀ e, Tag (K e)} {t : Tag fun e => Need (P e) (K e) (t' e)} {a : AV} (h : es[n]? = some a) (hp : P a) (hk : K a) : Elem es n (fun e => Need (P e) (K e) (t' e)) t := fun e he => by
  have := Option.some.inj (h.symm.trans he)
  subst this
  exact ⟨hp, hk⟩

theorem ElemT.recs {α : Type} {es : List α} {n : Nat} {P K : α → Prop} {t' : ∀ e, Tag (K e)} {t : Tag fun e => Need (P e) (K e) (t' e)} {a : α} (h : es[n]? = some a) (hp : P a) (hk : K a) : ElemT es n (fun e => Need (P e) (K e) (t' e)) t := fun e he => by
  have := Option.some.inj (h.symm.trans he)
  subst this
  exact ⟨hp, hk⟩

/-! ### size: frag's and the document's -/
theorem app1J (h J : List AObj) (o : AObj) : (h ++ J) ++ [o] = h ++ (J ++ [o]) := by simp
theorem getJ (h J : List AObj) (o : AObj) : (h ++ J ++ [o])[(h ++ J).length]? = some o := by simp
theorem setJ (h J : List AObj) (o o' : AObj) : (h ++ J ++ [o]).set (h ++ J).length o' = h ++ J ++ [o'] := by simp

theorem drop_get {α : Type} {l : List α} {i : Nat} {x : α} (h : l[i]? = some x) : l.drop i = x :: l.drop (i + 1) := by
  have hi := (List.getElem?_eq_some_iff.1 h)
  obtain ⟨hlt, he⟩ := hi
  rw [List.drop_eq_getElem_cons hlt, he]

set_option maxRecDepth 100000 in
theorem size_ev : ∀ (k : Nat) (l : List Stmt), szL l ≤ k → szL l < 2 ^ 60 → ∀ (h : List AObj), EvR E0 28 [bodyv l] h (i64 (szL l)) := by
  intro k
  induction k using Nat.strongRecOn with
  | _ k ih =>
    intro l hk hb h
    refine ev_of (fn := Tryd.f28) (hs := []) Tryd.func28 c28 (by simp) fun hcl => ?_
    have hlen := szL_len l
    simp only [ac28, List.length_map, ne_eq, not_false_eq_true, Option.map_some, Option.map_none, List.map_cons, List.map_nil, Bool.not_true, Bool.not_false, decide_true, decide_false, List.getElem?_cons_zero, List.getElem?_cons_succ, ↓aw1, ↓aw2, ↓aw17, aw3, aw4, aw5, aw6, aw7, aw8, aw9, aw10, aw11, aw12, aw13, aw14, aw15, aw16, aw19, Nat.reduceLeDiff, if_true, if_false, Nat.reduceEqDiff, Nat.reduceAdd, beq_self_eq_true, beq_true, beq_false, Bool.false_eq_true]
    refine LoopF.by (α := Nat × Nat × List AObj) (fun x => ⟨[(3, i64 x.2.1), (8, bodyv l), (9, i64 l.length), (10, i64 x.1)], h ++ x.2.2⟩) (fun x => l.length - x.1)
      (fun x => x.1 ≤ l.length ∧ x.2.1 + szL (l.drop x.1) = szL l + (l.length - x.1)) (0, l.length, []) ⟨by omega, by simp; omega⟩ (weak_of (by simp) (by simp [look])) ?_
    rintro ⟨i, acc, J⟩ ⟨h1, h2⟩
    simp only at h1 h2
    by_cases hi : i < l.length
    · obtain ⟨s, hs⟩ : ∃ s, l[i]? = some s := ⟨_, List.getElem?_eq_getElem hi⟩
      have e1 : decide ((i : Int) < (l.length : Int)) = true := by simp; omega
      have hmem := szL_mem (List.mem_of_getElem? hs)
      have hsz := szS_eq s
      rw [drop_get hs] at h2
      simp only [szL] at h2
      have w1 : IntKind.i64.wrap ((szL s.thn : Int) + (szL s.els : Int)) = ((szL s.thn + szL s.els : Nat) : Int) := by rw [wrap_i64] <;> omega
      have w2 : IntKind.i64.wrap ((acc : Int) + ((szL s.thn + szL s.els : Nat) : Int)) = ((acc + (szL s.thn + szL s.els) : Nat) : Int) := by rw [wrap_i64] <;> omega
      have w3 : IntKind.i64.wrap ((i : Int) + 1) = ((i + 1 : Nat) : Int) := by rw [wrap_i64] <;> omega
      simp only [e1, ne_eq, not_false_eq_true, Option.map_some, Option.map_none, List.map_cons, List.map_nil, Bool.not_true, Bool.not_false, decide_true, decide_false, List.getElem?_cons_zero, List.getElem?_cons_succ, ↓aw1, ↓aw2, ↓aw17, aw3, aw4, aw5, aw6, aw7, aw8, aw9, aw10, aw11, aw12, aw13, aw14, aw15, aw16, aw19, Nat.reduceLeDiff, if_true, if_false, Nat.reduceEqDiff, Nat.reduceAdd, beq_self_eq_true, beq_true, beq_false, Bool.false_eq_true]
      refine Need.mk ⟨by omega, by simp; omega⟩ (Elem.recs (map_get stmtv l i s hs) (by rw [stmtv_eq]; exact ⟨rfl, rfl⟩) ?_)
      simp only [stmtv_eq, List.take_succ_cons, List.take_zero, List.drop_zero, List.drop_succ_cons, getJ, setJ, ne_eq, not_false_eq_true, Option.map_some, Option.map_none, List.map_cons, List.map_nil, Bool.not_true, Bool.not_false, decide_true, decide_false, List.getElem?_cons_zero, List.getElem?_cons_succ, ↓aw1, ↓aw2, ↓aw17, aw3, aw4, aw5, aw6, aw7, aw8, aw9, aw10, aw11, aw12, aw13, aw14, aw15, aw16, aw19, Nat.reduceLeDiff, if_true, if_false, Nat.reduceEqDiff, Nat.reduceAdd, beq_self_eq_true, beq_true, beq_false, Bool.false_eq_true]
      refine EvRF.ret (ih (szL s.thn) (by omega) s.thn (Nat.le_refl _) (by omega) _) ?_
      simp only [List.drop_zero, List.drop_succ_cons, getJ, setJ, ne_eq, not_false_eq_true, Option.map_some, Option.map_none, List.map_cons, List.map_nil, Bool.not_true, Bool.not_false, decide_true, decide_false, List.getElem?_cons_zero, List.getElem?_cons_succ, ↓aw1, ↓aw2, ↓aw17, aw3, aw4, aw5, aw6, aw7, aw8, aw9, aw10, aw11, aw12, aw13, aw14, aw15, aw16, aw19, Nat.reduceLeDiff, if_true, if_false, Nat.reduceEqDiff, Nat.reduceAdd, beq_self_eq_true, beq_true, beq_false, Bool.false_eq_true]
      refine EvRF.ret (ih (szL s.els) (by omega) s.els (Nat.le_refl _) (by omega) _) ?_
      simp only [w1, w2, w3, ne_eq, not_false_eq_true, Option.map_some, Option.map_none, List.map_cons, List.map_nil, Bool.not_true, Bool.not_false, decide_true, decide_false, List.getElem?_cons_zero, List.getElem?_cons_succ, ↓aw1, ↓aw2, ↓aw17, aw3, aw4, aw5, aw6, aw7, aw8, aw9, aw10, aw11, aw12, aw13, aw14, aw15, aw16, aw19, Nat.reduceLeDiff, if_true, if_false, Nat.reduceEqDiff, Nat.reduceAdd, beq_self_eq_true, beq_true, beq_false, Bool.false_eq_true]
      exact ⟨(i + 1, acc + (szL s.thn + szL s.els), J ++ [.cells [i64 s.op, str s.name, argsv s.args, bodyv s.thn, bodyv s.els]]), ⟨by simp only; omega, by simp only; omega⟩, by simp only; omega, weak_of (by simp) (by simp [look])⟩
    · have e1 : decide ((i : Int) < (l.length : Int)) = false := by simp; omega
      have hi' : i = l.length := by omega
      subst hi'
      rw [List.drop_length] at h2
      simp only [szL] at h2
      obtain rfl : acc = szL l := by omega
      simp only [e1, ne_eq, not_false_eq_true, Option.map_some, Option.map_none, List.map_cons, List.map_nil, Bool.not_true, Bool.not_false, decide_true, decide_false, List.getElem?_cons_zero, List.getElem?_cons_succ, ↓aw1, ↓aw2, ↓aw17, aw3, aw4, aw5, aw6, aw7, aw8, aw9, aw10, aw11, aw12, aw13, aw14, aw15, aw16, aw19, Nat.reduceLeDiff, if_true, if_false, Nat.reduceEqDiff, Nat.reduceAdd, beq_self_eq_true, beq_true, beq_false, Bool.false_eq_true]
      exact Fin.same hcl rfl ⟨rfl, rfl⟩

theorem refsize_ev : ∀ (k : Nat) (l : List Stmt), szL l ≤ k → szL l < 2 ^ 60 → ∀ (h : List AObj), EvR E0 29 [bodyv l] h (i64 (szL l)) := by
  intro k
  induction k using Nat.strongRecOn with
  | _ k ih =>
    intro l hk hb h
    refine ev_of (fn := Tryd.f29) (hs := []) Tryd.func29 c29 (by simp) fun hcl => ?_
    have hlen := szL_len l
    simp only [ac29, List.length_map, ne_eq, not_false_eq_true, Option.map_some, Option.map_none, List.map_cons, List.map_nil, Bool.not_true, Bool.not_false, decide_true, decide_false, List.getElem?_cons_zero, List.getElem?_cons_succ, ↓aw1, ↓aw2, ↓aw17, aw3, aw4, aw5, aw6, aw7, aw8, aw9, aw10, aw11, aw12, aw13, aw14, aw15, aw16, aw19, Nat.reduceLeDiff, if_true, if_false, Nat.reduceEqDiff, Nat.reduceAdd, beq_self_eq_true, beq_true, beq_false, Bool.false_eq_true]
    refine LoopF.by (α := Nat × Nat) (fun x => ⟨[(0, bodyv l), (3, i64 x.2), (4, i64 x.1)], h⟩) (fun x => l.length - x.1)
      (fun x => x.1 ≤ l.length ∧ x.2 + szL (l.drop x.1) = szL l + (l.length - x.1)) (0, l.length) ⟨by omega, by simp; omega⟩ (weak_of (by simp) (by simp [look])) ?_
    rintro ⟨i, acc⟩ ⟨h1, h2⟩
    simp only at h1 h2
    by_cases hi : i < l.length
    · obtain ⟨s, hs⟩ : ∃ s, l[i]? = some s := ⟨_, List.getElem?_eq_getElem hi⟩
      have e1 : decide ((i : Int) < (l.length : Int)) = true := by simp; omega
      have hmem := szL_mem (List.mem_of_getElem? hs)
      have hsz := szS_eq s
      rw [drop_get hs] at h2
      simp only [szL] at h2
      have w1 : IntKind.i64.wrap ((acc : Int) + (szL s.thn : Int)) = ((acc + szL s.thn : Nat) : Int) := by rw [wrap_i64] <;> omega
      have w2 : IntKind.i64.wrap (((acc + szL s.thn : Nat) : Int) + (szL s.els : Int)) = ((acc + szL s.thn + szL s.els : Nat) : Int) := by rw [wrap_i64] <;> omega
      have w12 : IntKind.i64.wrap (IntKind.i64.wrap ((acc : Int) + (szL s.thn : Int)) + (szL s.els : Int)) = (acc : Int) + (szL s.thn : Int) + (szL s.els : Int) := by rw [w1, w2]; simp
      have w3 : IntKind.i64.wrap ((i : Int) + 1) = ((i + 1 : Nat) : Int) := by rw [wrap_i64] <;> omega
      simp only [e1, List.length_map, ne_eq, not_false_eq_true, Option.map_some, Option.map_none, List.map_cons, List.map_nil, Bool.not_true, Bool.not_false, decide_true, decide_false, List.getElem?_cons_zero, List.getElem?_cons_succ, ↓aw1, ↓aw2, ↓aw17, aw3, aw4, aw5, aw6, aw7, aw8, aw9, aw10, aw11, aw12, aw13, aw14, aw15, aw16, aw19, Nat.reduceLeDiff, if_true, if_false, Nat.reduceEqDiff, Nat.reduceAdd, beq_self_eq_true, beq_true, beq_false, Bool.false_eq_true]
      refine Need.mk ⟨by omega, by simp; omega⟩ (Elem.recs (map_get stmtv l i s hs) (by rw [stmtv_eq]; exact ⟨rfl, rfl⟩) ?_)
      simp only [stmtv_eq, List.take_succ_cons, List.take_zero, List.drop_zero, List.drop_succ_cons, ne_eq, not_false_eq_true, Option.map_some, Option.map_none, List.map_cons, List.map_nil, Bool.not_true, Bool.not_false, decide_true, decide_false, List.getElem?_cons_zero, List.getElem?_cons_succ, ↓aw1, ↓aw2, ↓aw17, aw3, aw4, aw5, aw6, aw7, aw8, aw9, aw10, aw11, aw12, aw13, aw14, aw15, aw16, aw19, Nat.reduceLeDiff, if_true, if_false, Nat.reduceEqDiff, Nat.reduceAdd, beq_self_eq_true, beq_true, beq_false, Bool.false_eq_true]
      refine EvRF.ret (ih (szL s.thn) (by omega) s.thn (Nat.le_refl _) (by omega) _) ?_
      simp only [w1, ne_eq, not_false_eq_true, Option.map_some, Option.map_none, List.map_cons, List.map_nil, Bool.not_true, Bool.not_false, decide_true, decide_false, List.getElem?_cons_zero, List.getElem?_cons_succ, ↓aw1, ↓aw2, ↓aw17, aw3, aw4, aw5, aw6, aw7, aw8, aw9, aw10, aw11, aw12, aw13, aw14, aw15, aw16, aw19, Nat.reduceLeDiff, if_true, if_false, Nat.reduceEqDiff, Nat.reduceAdd, beq_self_eq_true, beq_true, beq_false, Bool.false_eq_true]
      refine Need.mk ⟨by omega, by simp; omega⟩ (Elem.recs (map_get stmtv l i s hs) (by rw [stmtv_eq]; exact ⟨rfl, rfl⟩) ?_)
      simp only [stmtv_eq, List.take_succ_cons, List.take_zero, List.drop_zero, List.drop_succ_cons, ne_eq, not_false_eq_true, Option.map_some, Option.map_none, List.map_cons, List.map_nil, Bool.not_true, Bool.not_false, decide_true, decide_false, List.getElem?_cons_zero, List.getElem?_cons_succ, ↓aw1, ↓aw2, ↓aw17, aw3, aw4, aw5, aw6, aw7, aw8, aw9, aw10, aw11, aw12, aw13, aw14, aw15, aw16, aw19, Nat.reduceLeDiff, if_true, if_false, Nat.reduceEqDiff, Nat.reduceAdd, beq_self_eq_true, beq_true, beq_false, Bool.false_eq_true]
      refine EvRF.ret (ih (szL s.els) (by omega) s.els (Nat.le_refl _) (by omega) _) ?_
      simp only [w2, w3, ne_eq, not_false_eq_true, Option.map_some, Option.map_none, List.map_cons, List.map_nil, Bool.not_true, Bool.not_false, decide_true, decide_false, List.getElem?_cons_zero, List.getElem?_cons_succ, ↓aw1, ↓aw2, ↓aw17, aw3, aw4, aw5, aw6, aw7, aw8, aw9, aw10, aw11, aw12, aw13, aw14, aw15, aw16, aw19, Nat.reduceLeDiff, if_true, if_false, Nat.reduceEqDiff, Nat.reduceAdd, beq_self_eq_true, beq_true, beq_false, Bool.false_eq_true]
      exact ⟨(i + 1, acc + szL s.thn + szL s.els), ⟨by simp only; omega, by simp only; omega⟩, by simp only; omega, weak_of (by simp) (by simp [look, w12])⟩
    · have e1 : decide ((i : Int) < (l.length : Int)) = false := by simp; omega
      have hi' : i = l.length := by omega
      subst hi'
      rw [List.drop_length] at h2
      simp only [szL] at h2
      obtain rfl : acc = szL l := by omega
      simp only [e1, List.length_map, ne_eq, not_false_eq_true, Option.map_some, Option.map_none, List.map_cons, List.map_nil, Bool.not_true, Bool.not_false, decide_true, decide_false, List.getElem?_cons_zero, List.getElem?_cons_succ, ↓aw1, ↓aw2, ↓aw17, aw3, aw4, aw5, aw6, aw7, aw8, aw9, aw10, aw11, aw12, aw13, aw14, aw15, aw16, aw19, Nat.reduceLeDiff, if_true, if_false, Nat.reduceEqDiff, Nat.reduceAdd, beq_self_eq_true, beq_true, beq_false, Bool.false_eq_true]
      exact Fin.same0 hcl rfl ⟨rfl, rfl⟩

def szF : List Fun → Nat
  | [] => 0
  | f :: l => 1 + szL f.body + szF l
theorem szF_len : ∀ (l : List Fun), l.length ≤ szF l
  | [] => by simp [szF]
  | s :: l => by have := szF_len l; simp only [szF, List.length_cons]; omega
theorem szF_mem : ∀ {l : List Fun} {s : Fun}, s ∈ l → szL s.body < szF l
  | x :: l, s, h => by
    rcases List.mem_cons.1 h with rfl | h
    · simp only [szF]; omega
    · have := szF_mem h; simp only [szF]; omega

theorem fsize_ev (l : List Fun) (hb : szF l < 2 ^ 60) (h : List AObj) : EvR E0 13 [funsv l] h (i64 (szF l)) := by
  refine ev_of (fn := Tryd.f13) (hs := []) Tryd.func13 c13 (by simp) fun hcl => ?_
  have hlen := szF_len l
  simp only [ac13, List.length_map, ne_eq, not_false_eq_true, Option.map_some, Option.map_none, List.map_cons, List.map_nil, Bool.not_true, Bool.not_false, decide_true, decide_false, List.getElem?_cons_zero, List.getElem?_cons_succ, ↓aw1, ↓aw2, ↓aw17, aw3, aw4, aw5, aw6, aw7, aw8, aw9, aw10, aw11, aw12, aw13, aw14, aw15, aw16, aw19, Nat.reduceLeDiff, if_true, if_false, Nat.reduceEqDiff, Nat.reduceAdd, beq_self_eq_true, beq_true, beq_false, Bool.false_eq_true]
  refine LoopF.by (α := Nat × Nat × List AObj) (fun x => ⟨[(3, i64 x.2.1), (8, funsv l), (9, i64 l.length), (10, i64 x.1)], h ++ x.2.2⟩) (fun x => l.length - x.1)
    (fun x => x.1 ≤ l.length ∧ x.2.1 + szF (l.drop x.1) = szF l + (l.length - x.1)) (0, l.length, []) ⟨by omega, by simp; omega⟩ (weak_of (by simp) (by simp [look])) ?_
  rintro ⟨i, acc, J⟩ ⟨h1, h2⟩
  simp only at h1 h2
  by_cases hi : i < l.length
  · obtain ⟨s, hs⟩ : ∃ s, l[i]? = some s := ⟨_, List.getElem?_eq_getElem hi⟩
    have e1 : decide ((i : Int) < (l.length : Int)) = true := by simp; omega
    have hmem := szF_mem (List.mem_of_getElem? hs)
    rw [drop_get hs] at h2
    simp only [szF] at h2
    have w2 : IntKind.i64.wrap ((acc : Int) + (szL s.body : Int)) = ((acc + szL s.body : Nat) : Int) := by rw [wrap_i64] <;> omega
    have w3 : IntKind.i64.wrap ((i : Int) + 1) = ((i + 1 : Nat) : Int) := by rw [wrap_i64] <;> omega
    simp only [e1, ne_eq, not_false_eq_true, Option.map_some, Option.map_none, List.map_cons, List.map_nil, Bool.not_true, Bool.not_false, decide_true, decide_false, List.getElem?_cons_zero, List.getElem?_cons_succ, ↓aw1, ↓aw2, ↓aw17, aw3, aw4, aw5, aw6, aw7, aw8, aw9, aw10, aw11, aw12, aw13, aw14, aw15, aw16, aw19, Nat.reduceLeDiff, if_true, if_false, Nat.reduceEqDiff, Nat.reduceAdd, beq_self_eq_true, beq_true, beq_false, Bool.false_eq_true]
    refine Need.mk ⟨by omega, by simp; omega⟩ (Elem.recs (map_get funv l i s hs) ⟨rfl, rfl⟩ ?_)
    simp only [funv, List.take_succ_cons, List.take_zero, List.drop_zero, List.drop_succ_cons, getJ, setJ, ne_eq, not_false_eq_true, Option.map_some, Option.map_none, List.map_cons, List.map_nil, Bool.not_true, Bool.not_false, decide_true, decide_false, List.getElem?_cons_zero, List.getElem?_cons_succ, ↓aw1, ↓aw2, ↓aw17, aw3, aw4, aw5, aw6, aw7, aw8, aw9, aw10, aw11, aw12, aw13, aw14, aw15, aw16, aw19, Nat.reduceLeDiff, if_true, if_false, Nat.reduceEqDiff, Nat.reduceAdd, beq_self_eq_true, beq_true, beq_false, Bool.false_eq_true]
    refine EvF.ret (size_ev _ s.body (Nat.le_refl _) (by omega) _) ?_
    simp only [w2, w3, ne_eq, not_false_eq_true, Option.map_some, Option.map_none, List.map_cons, List.map_nil, Bool.not_true, Bool.not_false, decide_true, decide_false, List.getElem?_cons_zero, List.getElem?_cons_succ, ↓aw1, ↓aw2, ↓aw17, aw3, aw4, aw5, aw6, aw7, aw8, aw9, aw10, aw11, aw12, aw13, aw14, aw15, aw16, aw19, Nat.reduceLeDiff, if_true, if_false, Nat.reduceEqDiff, Nat.reduceAdd, beq_self_eq_true, beq_true, beq_false, Bool.false_eq_true]
    exact ⟨(i + 1, acc + szL s.body, J ++ [.cells [str s.name, bodyv s.body]]), ⟨by simp only; omega, by simp only; omega⟩, by simp only; omega, weak_of (by simp) (by simp [look])⟩
  · have e1 : decide ((i : Int) < (l.length : Int)) = false := by simp; omega
    have hi' : i = l.length := by omega
    subst hi'
    rw [List.drop_length] at h2
    simp only [szF] at h2
    obtain rfl : acc = szF l := by omega
    simp only [e1, ne_eq, not_false_eq_true, Option.map_some, Option.map_none, List.map_cons, List.map_nil, Bool.not_true, Bool.not_false, decide_true, decide_false, List.getElem?_cons_zero, List.getElem?_cons_succ, ↓aw1, ↓aw2, ↓aw17, aw3, aw4, aw5, aw6, aw7, aw8, aw9, aw10, aw11, aw12, aw13, aw14, aw15, aw16, aw19, Nat.reduceLeDiff, if_true, if_false, Nat.reduceEqDiff, Nat.reduceAdd, beq_self_eq_true, beq_true, beq_false, Bool.false_eq_true]
    exact Fin.same hcl rfl ⟨rfl, rfl⟩

theorem rfsize_ev (l : List Fun) (hb : szF l < 2 ^ 60) (h : List AObj) : EvR E0 14 [funsv l] h (i64 (szF l)) := by
  refine ev_of (fn := Tryd.f14) (hs := []) Tryd.func14 c14 (by simp) fun hcl => ?_
  have hlen := szF_len l
  simp only [ac14, List.length_map, ne_eq, not_false_eq_true, Option.map_some, Option.map_none, List.map_cons, List.map_nil, Bool.not_true, Bool.not_false, decide_true, decide_false, List.getElem?_cons_zero, List.getElem?_cons_succ, ↓aw1, ↓aw2, ↓aw17, aw3, aw4, aw5, aw6, aw7, aw8, aw9, aw10, aw11, aw12, aw13, aw14, aw15, aw16, aw19, Nat.reduceLeDiff, if_true, if_false, Nat.reduceEqDiff, Nat.reduceAdd, beq_self_eq_true, beq_true, beq_false, Bool.false_eq_true]
  refine LoopF.by (α := Nat × Nat) (fun x => ⟨[(0, funsv l), (3, i64 x.2), (4, i64 x.1)], h⟩) (fun x => l.length - x.1)
    (fun x => x.1 ≤ l.length ∧ x.2 + szF (l.drop x.1) = szF l + (l.length - x.1)) (0, l.length) ⟨by omega, by simp; omega⟩ (weak_of (by simp) (by simp [look])) ?_
  rintro ⟨i, acc⟩ ⟨h1, h2⟩
  simp only at h1 h2
  by_cases hi : i < l.length
  · obtain ⟨s, hs⟩ : ∃ s, l[i]? = some s := ⟨_, List.getElem?_eq_getElem hi⟩
    have e1 : decide ((i : Int) < (l.length : Int)) = true := by simp; omega
    have hmem := szF_mem (List.mem_of_getElem? hs)
    rw [drop_get hs] at h2
    simp only [szF] at h2
    have w2 : IntKind.i64.wrap ((acc : Int) + (szL s.body : Int)) = ((acc + szL s.body : Nat) : Int) := by rw [wrap_i64] <;> omega
    have w3 : IntKind.i64.wrap ((i : Int) + 1) = ((i + 1 : Nat) : Int) := by rw [wrap_i64] <;> omega
    simp only [e1, List.length_map, ne_eq, not_false_eq_true, Option.map_some, Option.map_none, List.map_cons, List.map_nil, Bool.not_true, Bool.not_false, decide_true, decide_false, List.getElem?_cons_zero, List.getElem?_cons_succ, ↓aw1, ↓aw2, ↓aw17, aw3, aw4, aw5, aw6, aw7, aw8, aw9, aw10, aw11, aw12, aw13, aw14, aw15, aw16, aw19, Nat.reduceLeDiff, if_true, if_false, Nat.reduceEqDiff, Nat.reduceAdd, beq_self_eq_true, beq_true, beq_false, Bool.false_eq_true]
    refine Need.mk ⟨by omega, by simp; omega⟩ (Elem.recs (map_get funv l i s hs) ⟨rfl, rfl⟩ ?_)
    simp only [funv, List.take_succ_cons, List.take_zero, List.drop_zero, List.drop_succ_cons, ne_eq, not_false_eq_true, Option.map_some, Option.map_none, List.map_cons, List.map_nil, Bool.not_true, Bool.not_false, decide_true, decide_false, List.getElem?_cons_zero, List.getElem?_cons_succ, ↓aw1, ↓aw2, ↓aw17, aw3, aw4, aw5, aw6, aw7, aw8, aw9, aw10, aw11, aw12, aw13, aw14, aw15, aw16, aw19, Nat.reduceLeDiff, if_true, if_false, Nat.reduceEqDiff, Nat.reduceAdd, beq_self_eq_true, beq_true, beq_false, Bool.false_eq_true]
    refine EvF.ret (refsize_ev _ s.body (Nat.le_refl _) (by omega) _) ?_
    simp only [w2, w3, ne_eq, not_false_eq_true, Option.map_some, Option.map_none, List.map_cons, List.map_nil, Bool.not_true, Bool.not_false, decide_true, decide_false, List.getElem?_cons_zero, List.getElem?_cons_succ, ↓aw1, ↓aw2, ↓aw17, aw3, aw4, aw5, aw6, aw7, aw8, aw9, aw10, aw11, aw12, aw13, aw14, aw15, aw16, aw19, Nat.reduceLeDiff, if_true, if_false, Nat.reduceEqDiff, Nat.reduceAdd, beq_self_eq_true, beq_true, beq_false, Bool.false_eq_true]
    exact ⟨(i + 1, acc + szL s.body), ⟨by simp only; omega, by simp only; omega⟩, by simp only; omega, weak_of (by simp) (by simp [look])⟩
  · have e1 : decide ((i : Int) < (l.length : Int)) = false := by simp; omega
    have hi' : i = l.length := by omega
    subst hi'
    rw [List.drop_length] at h2
    simp only [szF] at h2
    obtain rfl : acc = szF l := by omega
    simp only [e1, List.length_map, ne_eq, not_false_eq_true, Option.map_some, Option.map_none, List.map_cons, List.map_nil, Bool.not_true, Bool.not_false, decide_true, decide_false, List.getElem?_cons_zero, List.getElem?_cons_succ, ↓aw1, ↓aw2, ↓aw17, aw3, aw4, aw5, aw6, aw7, aw8, aw9, aw10, aw11, aw12, aw13, aw14, aw15, aw16, aw19, Nat.reduceLeDiff, if_true, if_false, Nat.reduceEqDiff, Nat.reduceAdd, beq_self_eq_true, beq_true, beq_false, Bool.false_eq_true]
    exact Fin.same0 hcl rfl ⟨rfl, rfl⟩
end Go.Abs.Fr
