/- Characters, and the character at a place. -/
import Derived.Test.YtenhfnadhmjloaaDoorT7C
set_option linter.all false
namespace Go.Abs.T7
open Go Go.Abs Go.Proofs
set_option linter.unusedSimpArgs false

abbrev u8v (c : UInt8) : AV := .lit (.int .u8 c.toNat)
abbrev byA (b : List UInt8) : List AV := b.map fun c => AV.lit (.int .u8 c.toNat)
abbrev i64 (n : Int) : AV := .lit (.int .i64 n)
abbrev boolv (b : Bool) : AV := .lit (.bool b)

def isLet (c : UInt8) : Bool := decide ((97 : Int) ≤ ((c ||| 32).toNat : Int)) && decide (((c ||| 32).toNat : Int) ≤ 122)
def isDig (c : UInt8) : Bool := decide ((48 : Int) ≤ (c.toNat : Int)) && decide ((c.toNat : Int) ≤ 57)
/-- The character at a place; 0 behind the end. -/
def pk (b : List UInt8) (i : Nat) : UInt8 := b[i]?.getD 0

theorem wrap_u8 (d : UInt8) : IntKind.u8.wrap (d.toNat : Int) = (d.toNat : Int) := by
  have := d.toNat_lt
  simp [IntKind.wrap, IntKind.signed, IntKind.bits]
  omega
theorem or_u8 (c : UInt8) : ibits .or .u8 (c.toNat : Int) 32 = ((c ||| 32).toNat : Int) := by
  have h1 : (BitVec.ofInt 8 (c.toNat : Int)) = c.toBitVec := by
    apply BitVec.eq_of_toNat_eq
    simp
  have h2 : (BitVec.ofInt 8 32) = (32 : UInt8).toBitVec := by decide
  show IntKind.u8.wrap (((BitVec.ofInt 8 (c.toNat : Int)) ||| (BitVec.ofInt 8 32)).toNat : Int) = _
  rw [h1, h2]
  exact wrap_u8 (c ||| 32)

theorem digit_ev (c : UInt8) (h : List AObj) : EvR E0 26 [u8v c] h (boolv (isDig c)) := by
  refine ev_of (fn := Tryd.f26) (hs := []) Tryd.func26 c26 (by simp) fun hcl => ?_
  simp only [ac26, ne_eq, not_false_eq_true, Option.map_some, Option.map_none, List.map_cons, List.map_nil, Bool.not_true, Bool.not_false, decide_true, decide_false, List.getElem?_cons_zero, List.getElem?_cons_succ, ↓aw1, ↓aw2, ↓aw17, aw3, aw4, aw5, aw6, aw7, aw8, aw9, aw10, aw11, aw12, aw13, aw14, aw15, aw16, Nat.reduceLeDiff, if_true, if_false, Nat.reduceEqDiff, Nat.reduceAdd, beq_self_eq_true, beq_true, beq_false, Bool.false_eq_true]
  refine BrF.mk (fun hb => ?_) (fun hb => ?_)
  all_goals simp only [hb, ne_eq, not_false_eq_true, Option.map_some, Option.map_none, List.map_cons, List.map_nil, Bool.not_true, Bool.not_false, decide_true, decide_false, List.getElem?_cons_zero, List.getElem?_cons_succ, ↓aw1, ↓aw2, ↓aw17, aw3, aw4, aw5, aw6, aw7, aw8, aw9, aw10, aw11, aw12, aw13, aw14, aw15, aw16, Nat.reduceLeDiff, if_true, if_false, Nat.reduceEqDiff, Nat.reduceAdd, beq_self_eq_true, beq_true, beq_false, Bool.false_eq_true]
  all_goals exact Fin.same0 hcl (by simp [AV.under]) ⟨by simp only [isDig, boolv, hb, Bool.true_and, Bool.false_and], rfl⟩

theorem letter_ev (c : UInt8) (h : List AObj) : EvR E0 18 [u8v c] h (boolv (isLet c)) := by
  refine ev_of (fn := Tryd.f18) (hs := []) Tryd.func18 c18 (by simp) fun hcl => ?_
  simp only [ac18, or_u8, ne_eq, not_false_eq_true, Option.map_some, Option.map_none, List.map_cons, List.map_nil, Bool.not_true, Bool.not_false, decide_true, decide_false, List.getElem?_cons_zero, List.getElem?_cons_succ, ↓aw1, ↓aw2, ↓aw17, aw3, aw4, aw5, aw6, aw7, aw8, aw9, aw10, aw11, aw12, aw13, aw14, aw15, aw16, Nat.reduceLeDiff, if_true, if_false, Nat.reduceEqDiff, Nat.reduceAdd, beq_self_eq_true, beq_true, beq_false, Bool.false_eq_true]
  refine BrF.mk (fun hb => ?_) (fun hb => ?_)
  all_goals simp only [hb, or_u8, ne_eq, not_false_eq_true, Option.map_some, Option.map_none, List.map_cons, List.map_nil, Bool.not_true, Bool.not_false, decide_true, decide_false, List.getElem?_cons_zero, List.getElem?_cons_succ, ↓aw1, ↓aw2, ↓aw17, aw3, aw4, aw5, aw6, aw7, aw8, aw9, aw10, aw11, aw12, aw13, aw14, aw15, aw16, Nat.reduceLeDiff, if_true, if_false, Nat.reduceEqDiff, Nat.reduceAdd, beq_self_eq_true, beq_true, beq_false, Bool.false_eq_true]
  all_goals exact Fin.same0 hcl (by simp [AV.under]) ⟨by simp only [isLet, boolv, hb, Bool.true_and, Bool.false_and], rfl⟩

/-- A text and a place in it, as an object. -/
abbrev txt (b : List UInt8) (at_ : Nat) : AObj := .cells [.sl .unk (byA b), i64 at_]

theorem wrap_i64 (n : Int) (h0 : -9223372036854775808 ≤ n) (h : n ≤ 9223372036854775807) : IntKind.i64.wrap n = n := by
  simp [IntKind.wrap, IntKind.signed, IntKind.bits]
  omega

theorem peek_ev {h : List AObj} {s : Nat} {b : List UInt8} {at_ k : Nat} (hs : h[s]? = some (txt b at_)) (hk : at_ + k < 2 ^ 62) :
    EvR E0 19 [.ref s 0, i64 k] h (u8v (pk b (at_ + k))) := by
  refine ev_of (fn := Tryd.f19) (hs := []) Tryd.func19 c19 (by simp) fun hcl => ?_
  have hw : IntKind.i64.wrap ((at_ : Int) + (k : Int)) = ((at_ + k : Nat) : Int) := by rw [wrap_i64] <;> omega
  simp only [ac19, hs, hw, ne_eq, not_false_eq_true, Option.map_some, Option.map_none, List.map_cons, List.map_nil, Bool.not_true, Bool.not_false, decide_true, decide_false, List.getElem?_cons_zero, List.getElem?_cons_succ, ↓aw1, ↓aw2, ↓aw17, aw3, aw4, aw5, aw6, aw7, aw8, aw9, aw10, aw11, aw12, aw13, aw14, aw15, aw16, Nat.reduceLeDiff, if_true, if_false, Nat.reduceEqDiff, Nat.reduceAdd, beq_self_eq_true, beq_true, beq_false, Bool.false_eq_true]
  refine BrF.dec (fun hb => ?_) (fun hb => ?_)
  · have hn : b[at_ + k]? = none := by rw [List.length_map] at hb; exact List.getElem?_eq_none (by omega)
    simp only [ne_eq, not_false_eq_true, Option.map_some, Option.map_none, List.map_cons, List.map_nil, Bool.not_true, Bool.not_false, decide_true, decide_false, List.getElem?_cons_zero, List.getElem?_cons_succ, ↓aw1, ↓aw2, ↓aw17, aw3, aw4, aw5, aw6, aw7, aw8, aw9, aw10, aw11, aw12, aw13, aw14, aw15, aw16, Nat.reduceLeDiff, if_true, if_false, Nat.reduceEqDiff, Nat.reduceAdd, beq_self_eq_true, beq_true, beq_false, Bool.false_eq_true]
    refine Fin.same0 hcl (by simp [AV.under]) ⟨?_, rfl⟩
    simp [u8v, pk, hn]
  · simp only [hs, hw, ne_eq, not_false_eq_true, Option.map_some, Option.map_none, List.map_cons, List.map_nil, Bool.not_true, Bool.not_false, decide_true, decide_false, List.getElem?_cons_zero, List.getElem?_cons_succ, ↓aw1, ↓aw2, ↓aw17, aw3, aw4, aw5, aw6, aw7, aw8, aw9, aw10, aw11, aw12, aw13, aw14, aw15, aw16, Nat.reduceLeDiff, if_true, if_false, Nat.reduceEqDiff, Nat.reduceAdd, beq_self_eq_true, beq_true, beq_false, Bool.false_eq_true]
    refine Need.mk (by omega) fun c hc => ?_
    simp only [Int.toNat_natCast] at hc
    obtain ⟨x, hx, rfl⟩ : ∃ x, b[at_ + k]? = some x ∧ u8v x = c := by simpa [List.getElem?_map] using hc
    simp only [ne_eq, not_false_eq_true, Option.map_some, Option.map_none, List.map_cons, List.map_nil, Bool.not_true, Bool.not_false, decide_true, decide_false, List.getElem?_cons_zero, List.getElem?_cons_succ, ↓aw1, ↓aw2, ↓aw17, aw3, aw4, aw5, aw6, aw7, aw8, aw9, aw10, aw11, aw12, aw13, aw14, aw15, aw16, Nat.reduceLeDiff, if_true, if_false, Nat.reduceEqDiff, Nat.reduceAdd, beq_self_eq_true, beq_true, beq_false, Bool.false_eq_true]
    refine Fin.same0 hcl (by simp [AV.under]) ⟨?_, rfl⟩
    simp [u8v, pk, hx]

/-- Is a character this one? -/
def isC (n : Int) (c : UInt8) : Bool := decide ((c.toNat : Int) = n)

/-- How long a word is, told by its characters: from the n-th on; false: it ends with a hyphen. -/
def wl (p : Nat → UInt8) : Nat → Nat → Nat × Bool
  | 0, n => (n, true)
  | f + 1, n =>
    if isLet (p n) || isDig (p n) then wl p f (n + 1)
    else if !isC 45 (p n) || isC 45 (p (n + 1)) then (n, true)
    else if !isLet (p (n + 1)) && !isDig (p (n + 1)) then (n, false)
    else wl p f (n + 1)

theorem isC_zero {n : Int} (h : n ≠ 0) : isC n 0 = false := by simp [isC]; omega
theorem isC_eq {n : Nat} {c : UInt8} (hn : n < 256) : isC n c = decide (c = UInt8.ofNat n) := by
  unfold isC
  rw [decide_eq_decide]
  constructor
  · intro h
    apply UInt8.toNat_inj.1
    rw [UInt8.toNat_ofNat_of_lt' (by simpa using hn)]
    omega
  · rintro rfl
    rw [UInt8.toNat_ofNat_of_lt' (by simpa using hn)]

theorem word_ev {h : List AObj} {s : Nat} {b : List UInt8} {at_ : Nat} (hs : h[s]? = some (txt b at_)) (hk : at_ + b.length < 2 ^ 61) :
    EvR E0 20 [.ref s 0] h (.tup [i64 (wl (fun k => pk b (at_ + k)) (b.length + 1) 1).1, boolv (wl (fun k => pk b (at_ + k)) (b.length + 1) 1).2]) := by
  refine ev_of (fn := Tryd.f20) (hs := []) Tryd.func20 c20 (by simp) fun hcl => ?_
  generalize hR : wl (fun k => pk b (at_ + k)) (b.length + 1) 1 = R
  simp only [ac20, hs, ne_eq, not_false_eq_true, Option.map_some, Option.map_none, List.map_cons, List.map_nil, Bool.not_true, Bool.not_false, decide_true, decide_false, List.getElem?_cons_zero, List.getElem?_cons_succ, ↓aw1, ↓aw2, ↓aw17, aw3, aw4, aw5, aw6, aw7, aw8, aw9, aw10, aw11, aw12, aw13, aw14, aw15, aw16, Nat.reduceLeDiff, if_true, if_false, Nat.reduceEqDiff, Nat.reduceAdd, beq_self_eq_true, beq_true, beq_false, Bool.false_eq_true]
  refine LoopF.by (α := Nat × Nat) (fun x => ⟨[(0, .ref s 0), (4, i64 x.1)], h⟩) (fun x => x.2)
    (fun x => b.length < at_ + x.1 + x.2 ∧ x.1 ≤ b.length + 2 ∧ wl (fun k => pk b (at_ + k)) x.2 x.1 = R)
    (1, b.length + 1) ⟨by simp; omega, by simp, hR⟩ (weak_of rfl (by simp [look])) ?_
  rintro ⟨n, f⟩ ⟨h1, h2, h3⟩
  simp only at h1 h2 h3
  have hw : IntKind.i64.wrap ((n : Int) + 1) = ((n + 1 : Nat) : Int) := by rw [wrap_i64] <;> omega
  simp only [ne_eq, not_false_eq_true, Option.map_some, Option.map_none, List.map_cons, List.map_nil, Bool.not_true, Bool.not_false, decide_true, decide_false, List.getElem?_cons_zero, List.getElem?_cons_succ, ↓aw1, ↓aw2, ↓aw17, aw3, aw4, aw5, aw6, aw7, aw8, aw9, aw10, aw11, aw12, aw13, aw14, aw15, aw16, Nat.reduceLeDiff, if_true, if_false, Nat.reduceEqDiff, Nat.reduceAdd, beq_self_eq_true, beq_true, beq_false, Bool.false_eq_true]
  refine EvRF.ret (peek_ev hs (by omega)) ?_
  simp only [hw, ne_eq, not_false_eq_true, Option.map_some, Option.map_none, List.map_cons, List.map_nil, Bool.not_true, Bool.not_false, decide_true, decide_false, List.getElem?_cons_zero, List.getElem?_cons_succ, ↓aw1, ↓aw2, ↓aw17, aw3, aw4, aw5, aw6, aw7, aw8, aw9, aw10, aw11, aw12, aw13, aw14, aw15, aw16, Nat.reduceLeDiff, if_true, if_false, Nat.reduceEqDiff, Nat.reduceAdd, beq_self_eq_true, beq_true, beq_false, Bool.false_eq_true]
  refine EvRF.ret (peek_ev hs (by omega)) ?_
  simp only [ne_eq, not_false_eq_true, Option.map_some, Option.map_none, List.map_cons, List.map_nil, Bool.not_true, Bool.not_false, decide_true, decide_false, List.getElem?_cons_zero, List.getElem?_cons_succ, ↓aw1, ↓aw2, ↓aw17, aw3, aw4, aw5, aw6, aw7, aw8, aw9, aw10, aw11, aw12, aw13, aw14, aw15, aw16, Nat.reduceLeDiff, if_true, if_false, Nat.reduceEqDiff, Nat.reduceAdd, beq_self_eq_true, beq_true, beq_false, Bool.false_eq_true]
  generalize hc : pk b (at_ + n) = c
  generalize hd : pk b (at_ + (n + 1)) = d
  have hcz : at_ + n ≥ b.length → c = 0 := fun hge => by rw [← hc, pk, List.getElem?_eq_none hge]; rfl
  obtain ⟨f, rfl⟩ | hf : (∃ f', f = f' + 1) ∨ f = 0 := by cases f <;> simp
  rotate_left
  · subst hf
    have hc0 := hcz (by omega)
    subst hc0
    simp only [wl] at h3
    refine EvF.ret (letter_ev _ h) ?_
    simp only [show isLet 0 = false from rfl, ne_eq, not_false_eq_true, Option.map_some, Option.map_none, List.map_cons, List.map_nil, Bool.not_true, Bool.not_false, decide_true, decide_false, List.getElem?_cons_zero, List.getElem?_cons_succ, ↓aw1, ↓aw2, ↓aw17, aw3, aw4, aw5, aw6, aw7, aw8, aw9, aw10, aw11, aw12, aw13, aw14, aw15, aw16, Nat.reduceLeDiff, if_true, if_false, Nat.reduceEqDiff, Nat.reduceAdd, beq_self_eq_true, beq_true, beq_false, Bool.false_eq_true]
    refine EvF.ret (digit_ev _ h) ?_
    simp only [show isDig 0 = false from rfl, show (((0 : UInt8).toNat : Int) = 45) = False from by simp, ne_eq, not_false_eq_true, Option.map_some, Option.map_none, List.map_cons, List.map_nil, Bool.not_true, Bool.not_false, decide_true, decide_false, List.getElem?_cons_zero, List.getElem?_cons_succ, ↓aw1, ↓aw2, ↓aw17, aw3, aw4, aw5, aw6, aw7, aw8, aw9, aw10, aw11, aw12, aw13, aw14, aw15, aw16, Nat.reduceLeDiff, if_true, if_false, Nat.reduceEqDiff, Nat.reduceAdd, beq_self_eq_true, beq_true, beq_false, Bool.false_eq_true]
    exact Fin.same0 hcl (by simp [AV.under, unders]) ⟨by rw [← h3], rfl⟩
  have hne : isLet c = true ∨ isDig c = true ∨ isC 45 c = true → n ≤ b.length := fun hh => by
    rcases Nat.lt_or_ge (at_ + n) b.length with h' | h'
    · omega
    · have := hcz h'; subst this; exact absurd hh (by decide)
  simp only [wl, hc, hd] at h3
  refine EvF.ret (letter_ev _ h) ?_
  cases hlc : isLet c
  · simp only [ne_eq, not_false_eq_true, Option.map_some, Option.map_none, List.map_cons, List.map_nil, Bool.not_true, Bool.not_false, decide_true, decide_false, List.getElem?_cons_zero, List.getElem?_cons_succ, ↓aw1, ↓aw2, ↓aw17, aw3, aw4, aw5, aw6, aw7, aw8, aw9, aw10, aw11, aw12, aw13, aw14, aw15, aw16, Nat.reduceLeDiff, if_true, if_false, Nat.reduceEqDiff, Nat.reduceAdd, beq_self_eq_true, beq_true, beq_false, Bool.false_eq_true]
    refine EvF.ret (digit_ev _ h) ?_
    cases hdc : isDig c
    · simp only [ne_eq, not_false_eq_true, Option.map_some, Option.map_none, List.map_cons, List.map_nil, Bool.not_true, Bool.not_false, decide_true, decide_false, List.getElem?_cons_zero, List.getElem?_cons_succ, ↓aw1, ↓aw2, ↓aw17, aw3, aw4, aw5, aw6, aw7, aw8, aw9, aw10, aw11, aw12, aw13, aw14, aw15, aw16, Nat.reduceLeDiff, if_true, if_false, Nat.reduceEqDiff, Nat.reduceAdd, beq_self_eq_true, beq_true, beq_false, Bool.false_eq_true]
      cases h45 : isC 45 c
      · have h45' : decide ((c.toNat : Int) = 45) = false := h45
        simp only [h45', ne_eq, not_false_eq_true, Option.map_some, Option.map_none, List.map_cons, List.map_nil, Bool.not_true, Bool.not_false, decide_true, decide_false, List.getElem?_cons_zero, List.getElem?_cons_succ, ↓aw1, ↓aw2, ↓aw17, aw3, aw4, aw5, aw6, aw7, aw8, aw9, aw10, aw11, aw12, aw13, aw14, aw15, aw16, Nat.reduceLeDiff, if_true, if_false, Nat.reduceEqDiff, Nat.reduceAdd, beq_self_eq_true, beq_true, beq_false, Bool.false_eq_true]
        simp [hlc, hdc, h45] at h3
        exact Fin.same0 hcl (by simp [AV.under, unders]) ⟨by rw [← h3], rfl⟩
      · have h45' : decide ((c.toNat : Int) = 45) = true := h45
        simp only [h45', ne_eq, not_false_eq_true, Option.map_some, Option.map_none, List.map_cons, List.map_nil, Bool.not_true, Bool.not_false, decide_true, decide_false, List.getElem?_cons_zero, List.getElem?_cons_succ, ↓aw1, ↓aw2, ↓aw17, aw3, aw4, aw5, aw6, aw7, aw8, aw9, aw10, aw11, aw12, aw13, aw14, aw15, aw16, Nat.reduceLeDiff, if_true, if_false, Nat.reduceEqDiff, Nat.reduceAdd, beq_self_eq_true, beq_true, beq_false, Bool.false_eq_true]
        cases e45 : isC 45 d
        · have e45' : decide ((d.toNat : Int) = 45) = false := e45
          simp only [e45', ne_eq, not_false_eq_true, Option.map_some, Option.map_none, List.map_cons, List.map_nil, Bool.not_true, Bool.not_false, decide_true, decide_false, List.getElem?_cons_zero, List.getElem?_cons_succ, ↓aw1, ↓aw2, ↓aw17, aw3, aw4, aw5, aw6, aw7, aw8, aw9, aw10, aw11, aw12, aw13, aw14, aw15, aw16, Nat.reduceLeDiff, if_true, if_false, Nat.reduceEqDiff, Nat.reduceAdd, beq_self_eq_true, beq_true, beq_false, Bool.false_eq_true]
          refine EvF.ret (letter_ev _ h) ?_
          cases hld : isLet d
          · simp only [ne_eq, not_false_eq_true, Option.map_some, Option.map_none, List.map_cons, List.map_nil, Bool.not_true, Bool.not_false, decide_true, decide_false, List.getElem?_cons_zero, List.getElem?_cons_succ, ↓aw1, ↓aw2, ↓aw17, aw3, aw4, aw5, aw6, aw7, aw8, aw9, aw10, aw11, aw12, aw13, aw14, aw15, aw16, Nat.reduceLeDiff, if_true, if_false, Nat.reduceEqDiff, Nat.reduceAdd, beq_self_eq_true, beq_true, beq_false, Bool.false_eq_true]
            refine EvF.ret (digit_ev _ h) ?_
            cases hdd : isDig d
            · simp only [ne_eq, not_false_eq_true, Option.map_some, Option.map_none, List.map_cons, List.map_nil, Bool.not_true, Bool.not_false, decide_true, decide_false, List.getElem?_cons_zero, List.getElem?_cons_succ, ↓aw1, ↓aw2, ↓aw17, aw3, aw4, aw5, aw6, aw7, aw8, aw9, aw10, aw11, aw12, aw13, aw14, aw15, aw16, Nat.reduceLeDiff, if_true, if_false, Nat.reduceEqDiff, Nat.reduceAdd, beq_self_eq_true, beq_true, beq_false, Bool.false_eq_true]
              simp [hlc, hdc, h45, e45, hld, hdd] at h3
              exact Fin.same0 hcl (by simp [AV.under, unders]) ⟨by rw [← h3], rfl⟩
            · simp only [hw, ne_eq, not_false_eq_true, Option.map_some, Option.map_none, List.map_cons, List.map_nil, Bool.not_true, Bool.not_false, decide_true, decide_false, List.getElem?_cons_zero, List.getElem?_cons_succ, ↓aw1, ↓aw2, ↓aw17, aw3, aw4, aw5, aw6, aw7, aw8, aw9, aw10, aw11, aw12, aw13, aw14, aw15, aw16, Nat.reduceLeDiff, if_true, if_false, Nat.reduceEqDiff, Nat.reduceAdd, beq_self_eq_true, beq_true, beq_false, Bool.false_eq_true]
              simp [hlc, hdc, h45, e45, hld, hdd] at h3
              exact ⟨(n + 1, f), ⟨by simp; omega, by simp; have := hne (by simp [h45]); omega, h3⟩, by simp, weak_of rfl (by simp [look])⟩
          · simp only [hw, ne_eq, not_false_eq_true, Option.map_some, Option.map_none, List.map_cons, List.map_nil, Bool.not_true, Bool.not_false, decide_true, decide_false, List.getElem?_cons_zero, List.getElem?_cons_succ, ↓aw1, ↓aw2, ↓aw17, aw3, aw4, aw5, aw6, aw7, aw8, aw9, aw10, aw11, aw12, aw13, aw14, aw15, aw16, Nat.reduceLeDiff, if_true, if_false, Nat.reduceEqDiff, Nat.reduceAdd, beq_self_eq_true, beq_true, beq_false, Bool.false_eq_true]
            simp [hlc, hdc, h45, e45, hld] at h3
            exact ⟨(n + 1, f), ⟨by simp; omega, by simp; have := hne (by simp [h45]); omega, h3⟩, by simp, weak_of rfl (by simp [look])⟩
        · have e45' : decide ((d.toNat : Int) = 45) = true := e45
          simp only [e45', ne_eq, not_false_eq_true, Option.map_some, Option.map_none, List.map_cons, List.map_nil, Bool.not_true, Bool.not_false, decide_true, decide_false, List.getElem?_cons_zero, List.getElem?_cons_succ, ↓aw1, ↓aw2, ↓aw17, aw3, aw4, aw5, aw6, aw7, aw8, aw9, aw10, aw11, aw12, aw13, aw14, aw15, aw16, Nat.reduceLeDiff, if_true, if_false, Nat.reduceEqDiff, Nat.reduceAdd, beq_self_eq_true, beq_true, beq_false, Bool.false_eq_true]
          simp [hlc, hdc, h45, e45] at h3
          exact Fin.same0 hcl (by simp [AV.under, unders]) ⟨by rw [← h3], rfl⟩
    · simp only [hw, ne_eq, not_false_eq_true, Option.map_some, Option.map_none, List.map_cons, List.map_nil, Bool.not_true, Bool.not_false, decide_true, decide_false, List.getElem?_cons_zero, List.getElem?_cons_succ, ↓aw1, ↓aw2, ↓aw17, aw3, aw4, aw5, aw6, aw7, aw8, aw9, aw10, aw11, aw12, aw13, aw14, aw15, aw16, Nat.reduceLeDiff, if_true, if_false, Nat.reduceEqDiff, Nat.reduceAdd, beq_self_eq_true, beq_true, beq_false, Bool.false_eq_true]
      simp [hlc, hdc] at h3
      exact ⟨(n + 1, f), ⟨by simp; omega, by simp; have := hne (by simp [hdc]); omega, h3⟩, by simp, weak_of rfl (by simp [look])⟩
  · simp only [hw, ne_eq, not_false_eq_true, Option.map_some, Option.map_none, List.map_cons, List.map_nil, Bool.not_true, Bool.not_false, decide_true, decide_false, List.getElem?_cons_zero, List.getElem?_cons_succ, ↓aw1, ↓aw2, ↓aw17, aw3, aw4, aw5, aw6, aw7, aw8, aw9, aw10, aw11, aw12, aw13, aw14, aw15, aw16, Nat.reduceLeDiff, if_true, if_false, Nat.reduceEqDiff, Nat.reduceAdd, beq_self_eq_true, beq_true, beq_false, Bool.false_eq_true]
    simp [hlc] at h3
    exact ⟨(n + 1, f), ⟨by simp; omega, by simp; have := hne (by simp [hlc]); omega, h3⟩, by simp, weak_of rfl (by simp [look])⟩
end Go.Abs.T7
