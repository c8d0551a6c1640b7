/- Numbers. -/
import Derived.Test.YtenhfnadhmjloaaDoorT7S
import Derived.Test.YtenhfnadhmjloaaDoorT7H
set_option linter.all false
namespace Go.Abs.T7
open Go Go.Abs Go.Proofs Go.RowKit
set_option linter.unusedSimpArgs false

/-- What a text says as a number. -/
def atoiv (l : List UInt8) : AV :=
  match Lib.atoiAll l with
  | .ok v => .tup [i64 v, .lit .nilIface]
  | .range => .tup [i64 (Lib.atoiSat l), .ifc 62 .any]
  | _ => .tup [i64 0, .ifc 62 .any]

theorem rep_tup2 {w : World} {g : Gh} {n : Nat} {a b : AV} {x y : Value} (h1 : Rep w g n a x) (h2 : Rep w g n b y) : Rep w g n (.tup [a, b]) (.tuple #[x, y]) := by
  simp only [Rep, Reps]
  exact ⟨#[x, y], rfl, x, [y], rfl, h1, y, [], rfl, h2, rfl⟩

theorem atoi_ev (s : ByteArray) (h : List AObj) (hsz : s.size < 2 ^ 47) : EvR E0 31 [.lit (.string s)] h (atoiv s.data.toList) := by
  refine ev_of_kit (fn := Tryd.f31) Tryd.func31 (by kernel_rfl) (c := (Tryd.f31.body).getD .skip) (by kernel_rfl) fun w g vs hg hgl ha => ?_
  have := args_lit ha
  subst this
  obtain ⟨v0, hc0, hr0⟩ := gl_cell (i := 0) hgl rfl
  obtain ⟨v1, hc1, hr1⟩ := gl_cell (i := 1) hgl rfl
  simp only [Rep] at hr0 hr1
  obtain ⟨y0, rfl, _⟩ := hr0
  obtain ⟨y1, rfl, _⟩ := hr1
  unfold atoiv
  cases hv : Lib.atoiAll s.data.toList with
  | ok v =>
    refine (Tryd.strconv_Atoi_ok s (by omega) v hv w).mono ?_
    rintro e w' ⟨rfl, hw⟩
    refine ⟨_, rfl, ?_, fun g' => rep_tup2 (Rep.lit_iff.2 rfl) (Rep.lit_iff.2 rfl)⟩
    rcases hw with rfl | ⟨t, rfl⟩
    · exact Below.refl _ _
    · exact Lib.bytesWorld_below _ _ _
  | range =>
    refine (Tryd.strconv_Atoi_range s (by omega) hv _ w hc1 (.inr ⟨_, _, rfl⟩)).mono ?_
    rintro e w' ⟨N, rfl, _, _, hb⟩
    exact ⟨_, rfl, hb, fun g' => rep_tup2 (Rep.lit_iff.2 rfl) (by simp [Rep])⟩
  | _ =>
    have hc := Any.strconv_Atoi_syntax Tryd.laysC172 s (by omega) hv _ w hc0 (.inr ⟨_, _, rfl⟩)
    refine Calls.mono (P := Tryd.prog) (f := 31) hc ?_
    rintro e w' ⟨N, rfl, _, _, hb⟩
    exact ⟨_, rfl, hb, fun g' => rep_tup2 (Rep.lit_iff.2 rfl) (by simp only [Rep]; exact ⟨_, rfl, trivial⟩)⟩

/-- How far digits go. -/
def dg (p : Nat → UInt8) : Nat → Nat → Nat
  | 0, n => n
  | f + 1, n => if isDig (p n) then dg p f (n + 1) else n

theorem dg_bounds {b : List UInt8} {at_ : Nat} : ∀ (f n : Nat), at_ + n ≤ b.length → n ≤ dg (fun k => pk b (at_ + k)) f n ∧ at_ + dg (fun k => pk b (at_ + k)) f n ≤ b.length
  | 0, n, h => ⟨Nat.le_refl _, h⟩
  | f + 1, n, h => by
    unfold dg
    split
    · rename_i hd
      have : at_ + n < b.length := by
        rcases Nat.lt_or_ge (at_ + n) b.length with h' | h'
        · exact h'
        · rw [pk_none h'] at hd; exact absurd hd (by decide)
      have := dg_bounds (b := b) (at_ := at_) f (n + 1) (by omega)
      omega
    · exact ⟨Nat.le_refl _, h⟩

def fst (p : Nat → UInt8) : Nat := if isC 45 (p 0) then 1 else 0

/-- A number's value, its length, whether it is one. -/
def numv (l : List UInt8) (n : Nat) : AV :=
  match Lib.atoiAll l with
  | .ok v => .tup [i64 v, i64 n, boolv (!decide (v = -9223372036854775808))]
  | .range => .tup [i64 (Lib.atoiSat l), i64 n, boolv false]
  | _ => .tup [i64 0, i64 n, boolv false]

def num (b : List UInt8) (at_ : Nat) : AV :=
  let p := fun k => pk b (at_ + k)
  let n := dg p (b.length + 2) (fst p)
  if (isC 48 (p (fst p)) && (decide (1 < n) || decide (0 < fst p))) || isLet (p n) then .tup [i64 0, i64 0, boolv false]
  else numv ((b.drop at_).take n) n

set_option maxHeartbeats 4000000 in
theorem number_ev {h : List AObj} {s : Nat} {b : List UInt8} {at_ : Nat} (hs : h[s]? = some (txt b at_)) (hk : at_ < b.length) (hb : b.length < 2 ^ 40) :
    EvR E0 27 [.ref s 0] h (num b at_) := by
  refine ev_of (fn := Tryd.f27) (hs := []) Tryd.func27 c27 (by simp) fun hcl => ?_
  unfold num
  dsimp only
  generalize hn0 : dg (fun k => pk b (at_ + k)) (b.length + 2) (fst fun k => pk b (at_ + k)) = N
  have hfst : (fst fun k => pk b (at_ + k)) ≤ 1 := by unfold fst; split <;> omega
  have hN := dg_bounds (b := b) (at_ := at_) (b.length + 2) (fst fun k => pk b (at_ + k)) (by omega)
  rw [hn0] at hN
  generalize hF : (fst fun k => pk b (at_ + k)) = F at hN hn0 hfst
  simp only [ac27, ne_eq, not_false_eq_true, Option.map_some, Option.map_none, List.map_cons, List.map_nil, Bool.not_true, Bool.not_false, decide_true, decide_false, List.getElem?_cons_zero, List.getElem?_cons_succ, ↓aw1, ↓aw2, ↓aw17, aw3, aw4, aw5, aw6, aw7, aw8, aw9, aw10, aw11, aw12, aw13, aw14, aw15, aw16, Nat.reduceLeDiff, if_true, if_false, Nat.reduceEqDiff, Nat.reduceAdd, beq_self_eq_true, beq_true, beq_false, Bool.false_eq_true]
  refine EvF.ret (peek_ev (k := 0) hs (by omega)) ?_
  have hF0 : F = if isC 45 (pk b (at_ + 0)) then 1 else 0 := by rw [← hF]; rfl
  have hwn : ∀ n : Nat, at_ + n ≤ b.length → IntKind.i64.wrap ((n : Int) + 1) = ((n + 1 : Nat) : Int) := fun n hn => by rw [wrap_i64] <;> omega
  have hwN : IntKind.i64.wrap ((at_ : Int) + (N : Int)) = ((at_ + N : Nat) : Int) := by rw [wrap_i64] <;> omega
  have hFv : ∃ v : Bool, isC 45 (pk b (at_ + 0)) = v ∧ decide (((pk b (at_ + 0)).toNat : Int) = 45) = v ∧ F = if v then 1 else 0 := ⟨_, rfl, rfl, by rw [hF0]⟩
  obtain ⟨v, h45, h45', hFv⟩ := hFv
  cases v
  all_goals simp only [if_true, Bool.false_eq_true, if_false] at hFv
  all_goals simp only [h45', ne_eq, not_false_eq_true, Option.map_some, Option.map_none, List.map_cons, List.map_nil, Bool.not_true, Bool.not_false, decide_true, decide_false, List.getElem?_cons_zero, List.getElem?_cons_succ, ↓aw1, ↓aw2, ↓aw17, aw3, aw4, aw5, aw6, aw7, aw8, aw9, aw10, aw11, aw12, aw13, aw14, aw15, aw16, Nat.reduceLeDiff, if_true, if_false, Nat.reduceEqDiff, Nat.reduceAdd, beq_self_eq_true, beq_true, beq_false, Bool.false_eq_true]
  all_goals
    refine LoopF.by (α := Nat × Nat) (fun x => ⟨[(0, .ref s 0), (5, i64 x.1), (6, i64 F), (2, i64 0), (3, i64 0), (4, boolv false)], h⟩) (fun x => x.2)
      (fun x => at_ + x.1 ≤ b.length ∧ b.length < at_ + x.1 + x.2 ∧ dg (fun k => pk b (at_ + k)) x.2 x.1 = N)
      (F, b.length + 2) ⟨by simp; omega, by simp; omega, hn0⟩ (weak_of rfl (by simp [look, hFv])) ?_
    rintro ⟨n, f⟩ ⟨h1, h2, h3⟩
    simp only at h1 h2 h3
    obtain ⟨f, rfl⟩ : ∃ f', f = f' + 1 := ⟨f - 1, by omega⟩
    simp only [dg] at h3
    simp only [ne_eq, not_false_eq_true, Option.map_some, Option.map_none, List.map_cons, List.map_nil, Bool.not_true, Bool.not_false, decide_true, decide_false, List.getElem?_cons_zero, List.getElem?_cons_succ, ↓aw1, ↓aw2, ↓aw17, aw3, aw4, aw5, aw6, aw7, aw8, aw9, aw10, aw11, aw12, aw13, aw14, aw15, aw16, Nat.reduceLeDiff, if_true, if_false, Nat.reduceEqDiff, Nat.reduceAdd, beq_self_eq_true, beq_true, beq_false, Bool.false_eq_true]
    refine EvF.ret (peek_ev hs (by omega)) ?_
    simp only [ne_eq, not_false_eq_true, Option.map_some, Option.map_none, List.map_cons, List.map_nil, Bool.not_true, Bool.not_false, decide_true, decide_false, List.getElem?_cons_zero, List.getElem?_cons_succ, ↓aw1, ↓aw2, ↓aw17, aw3, aw4, aw5, aw6, aw7, aw8, aw9, aw10, aw11, aw12, aw13, aw14, aw15, aw16, Nat.reduceLeDiff, if_true, if_false, Nat.reduceEqDiff, Nat.reduceAdd, beq_self_eq_true, beq_true, beq_false, Bool.false_eq_true]
    refine EvF.ret (digit_ev _ h) ?_
    cases hd : isDig (pk b (at_ + n))
  case false.true | true.true =>
    simp only [hwn n h1, ne_eq, not_false_eq_true, Option.map_some, Option.map_none, List.map_cons, List.map_nil, Bool.not_true, Bool.not_false, decide_true, decide_false, List.getElem?_cons_zero, List.getElem?_cons_succ, ↓aw1, ↓aw2, ↓aw17, aw3, aw4, aw5, aw6, aw7, aw8, aw9, aw10, aw11, aw12, aw13, aw14, aw15, aw16, Nat.reduceLeDiff, if_true, if_false, Nat.reduceEqDiff, Nat.reduceAdd, beq_self_eq_true, beq_true, beq_false, Bool.false_eq_true]
    have hlt : at_ + n < b.length := by
      rcases Nat.lt_or_ge (at_ + n) b.length with h' | h'
      · exact h'
      · rw [pk_none h'] at hd; exact absurd hd (by decide)
    rw [if_pos hd] at h3
    exact ⟨(n + 1, f), ⟨by simp; omega, by simp; omega, h3⟩, by simp, weak_of rfl (by simp [look])⟩
  all_goals
    rw [if_neg (by rw [hd]; simp)] at h3
    subst h3
    simp only [ne_eq, not_false_eq_true, Option.map_some, Option.map_none, List.map_cons, List.map_nil, Bool.not_true, Bool.not_false, decide_true, decide_false, List.getElem?_cons_zero, List.getElem?_cons_succ, ↓aw1, ↓aw2, ↓aw17, aw3, aw4, aw5, aw6, aw7, aw8, aw9, aw10, aw11, aw12, aw13, aw14, aw15, aw16, Nat.reduceLeDiff, if_true, if_false, Nat.reduceEqDiff, Nat.reduceAdd, beq_self_eq_true, beq_true, beq_false, Bool.false_eq_true]
    refine EvF.ret (peek_ev hs (by omega)) ?_
    simp only [ne_eq, not_false_eq_true, Option.map_some, Option.map_none, List.map_cons, List.map_nil, Bool.not_true, Bool.not_false, decide_true, decide_false, List.getElem?_cons_zero, List.getElem?_cons_succ, ↓aw1, ↓aw2, ↓aw17, aw3, aw4, aw5, aw6, aw7, aw8, aw9, aw10, aw11, aw12, aw13, aw14, aw15, aw16, Nat.reduceLeDiff, if_true, if_false, Nat.reduceEqDiff, Nat.reduceAdd, beq_self_eq_true, beq_true, beq_false, Bool.false_eq_true]
  all_goals
    obtain ⟨c, hc, hc'⟩ : ∃ v : Bool, isC 48 (pk b (at_ + F)) = v ∧ decide (((pk b (at_ + F)).toNat : Int) = 48) = v := ⟨_, rfl, rfl⟩
    obtain ⟨d1, hd1, hd1'⟩ : ∃ v : Bool, decide (1 < n) = v ∧ decide ((1 : Int) < (n : Int)) = v := ⟨_, rfl, by rw [decide_eq_decide]; omega⟩
    obtain ⟨d2, hd2, hd2'⟩ : ∃ v : Bool, decide (0 < F) = v ∧ decide ((0 : Int) < (F : Int)) = v := ⟨_, rfl, by rw [decide_eq_decide]; omega⟩
    have hres : ∀ x y : AV, (if ((isC 48 (pk b (at_ + F)) && (decide (1 < n) || decide (0 < F))) || isLet (pk b (at_ + n))) = true then x else y) = if ((c && (d1 || d2)) || isLet (pk b (at_ + n))) = true then x else y := fun x y => by rw [hc, hd1, hd2]
    rw [hres]
    clear hres hc hd1 hd2 hn0 hF0 h45 h45'
  all_goals cases c
  case false.false.false | true.false.false =>
    simp only [hc', Bool.false_and, Bool.false_or, ne_eq, not_false_eq_true, Option.map_some, Option.map_none, List.map_cons, List.map_nil, Bool.not_true, Bool.not_false, decide_true, decide_false, List.getElem?_cons_zero, List.getElem?_cons_succ, ↓aw1, ↓aw2, ↓aw17, aw3, aw4, aw5, aw6, aw7, aw8, aw9, aw10, aw11, aw12, aw13, aw14, aw15, aw16, Nat.reduceLeDiff, if_true, if_false, Nat.reduceEqDiff, Nat.reduceAdd, beq_self_eq_true, beq_true, beq_false, Bool.false_eq_true]
    refine EvF.ret (peek_ev hs (by omega)) ?_
    simp only [ne_eq, not_false_eq_true, Option.map_some, Option.map_none, List.map_cons, List.map_nil, Bool.not_true, Bool.not_false, decide_true, decide_false, List.getElem?_cons_zero, List.getElem?_cons_succ, ↓aw1, ↓aw2, ↓aw17, aw3, aw4, aw5, aw6, aw7, aw8, aw9, aw10, aw11, aw12, aw13, aw14, aw15, aw16, Nat.reduceLeDiff, if_true, if_false, Nat.reduceEqDiff, Nat.reduceAdd, beq_self_eq_true, beq_true, beq_false, Bool.false_eq_true]
    refine EvF.ret (letter_ev _ h) ?_
    cases hl : isLet (pk b (at_ + n))
    · simp only [hs, hwN, ne_eq, not_false_eq_true, Option.map_some, Option.map_none, List.map_cons, List.map_nil, Bool.not_true, Bool.not_false, decide_true, decide_false, List.getElem?_cons_zero, List.getElem?_cons_succ, ↓aw1, ↓aw2, ↓aw17, aw3, aw4, aw5, aw6, aw7, aw8, aw9, aw10, aw11, aw12, aw13, aw14, aw15, aw16, Nat.reduceLeDiff, if_true, if_false, Nat.reduceEqDiff, Nat.reduceAdd, beq_self_eq_true, beq_true, beq_false, Bool.false_eq_true]
      refine Need.mk ⟨by omega, by omega, by simp; omega, .inr (byA_fit b)⟩ ?_
      have e1 : List.drop (Int.toNat (at_ : Int)) (List.take (Int.toNat ((at_ + n : Nat) : Int)) (byA b)) = byA ((b.drop at_).take n) := by
        simp only [Int.toNat_natCast, byA_take, byA_drop, List.drop_take]
        congr 2
        omega
      generalize hl2 : (b.drop at_).take n = l at e1
      have hll : l.length < 2 ^ 47 := by rw [← hl2]; simp; omega
      simp only [e1, bitesOf_byA, hwN, ne_eq, not_false_eq_true, Option.map_some, Option.map_none, List.map_cons, List.map_nil, Bool.not_true, Bool.not_false, decide_true, decide_false, List.getElem?_cons_zero, List.getElem?_cons_succ, ↓aw1, ↓aw2, ↓aw17, aw3, aw4, aw5, aw6, aw7, aw8, aw9, aw10, aw11, aw12, aw13, aw14, aw15, aw16, Nat.reduceLeDiff, if_true, if_false, Nat.reduceEqDiff, Nat.reduceAdd, beq_self_eq_true, beq_true, beq_false, Bool.false_eq_true]
      refine EvRF.ret (atoi_ev _ h (show l.length < 2 ^ 47 from hll)) ?_
      rw [show (⟨l.toArray⟩ : ByteArray).data.toList = l from rfl]
      unfold atoiv numv
      cases hv : Lib.atoiAll l with
      | ok v =>
        simp only [ne_eq, not_false_eq_true, Option.map_some, Option.map_none, List.map_cons, List.map_nil, Bool.not_true, Bool.not_false, decide_true, decide_false, List.getElem?_cons_zero, List.getElem?_cons_succ, ↓aw1, ↓aw2, ↓aw17, aw3, aw4, aw5, aw6, aw7, aw8, aw9, aw10, aw11, aw12, aw13, aw14, aw15, aw16, Nat.reduceLeDiff, if_true, if_false, Nat.reduceEqDiff, Nat.reduceAdd, beq_self_eq_true, beq_true, beq_false, Bool.false_eq_true]
        exact Fin.same0 hcl (by simp [AV.under, unders]) ⟨rfl, rfl⟩
      | _ =>
        simp only [ne_eq, not_false_eq_true, Option.map_some, Option.map_none, List.map_cons, List.map_nil, Bool.not_true, Bool.not_false, decide_true, decide_false, List.getElem?_cons_zero, List.getElem?_cons_succ, ↓aw1, ↓aw2, ↓aw17, aw3, aw4, aw5, aw6, aw7, aw8, aw9, aw10, aw11, aw12, aw13, aw14, aw15, aw16, Nat.reduceLeDiff, if_true, if_false, Nat.reduceEqDiff, Nat.reduceAdd, beq_self_eq_true, beq_true, beq_false, Bool.false_eq_true]
        exact Fin.same0 hcl (by simp [AV.under, unders]) ⟨rfl, rfl⟩
    · simp only [ne_eq, not_false_eq_true, Option.map_some, Option.map_none, List.map_cons, List.map_nil, Bool.not_true, Bool.not_false, decide_true, decide_false, List.getElem?_cons_zero, List.getElem?_cons_succ, ↓aw1, ↓aw2, ↓aw17, aw3, aw4, aw5, aw6, aw7, aw8, aw9, aw10, aw11, aw12, aw13, aw14, aw15, aw16, Nat.reduceLeDiff, if_true, if_false, Nat.reduceEqDiff, Nat.reduceAdd, beq_self_eq_true, beq_true, beq_false, Bool.false_eq_true]
      exact Fin.same0 hcl (by simp [AV.under, unders]) ⟨rfl, rfl⟩
  all_goals cases d1
  case false.false.true.true | true.false.true.true =>
    simp only [hc', hd1', ne_eq, not_false_eq_true, Option.map_some, Option.map_none, List.map_cons, List.map_nil, Bool.not_true, Bool.not_false, decide_true, decide_false, List.getElem?_cons_zero, List.getElem?_cons_succ, ↓aw1, ↓aw2, ↓aw17, aw3, aw4, aw5, aw6, aw7, aw8, aw9, aw10, aw11, aw12, aw13, aw14, aw15, aw16, Nat.reduceLeDiff, if_true, if_false, Nat.reduceEqDiff, Nat.reduceAdd, beq_self_eq_true, beq_true, beq_false, Bool.false_eq_true]
    exact Fin.same0 hcl (by simp [AV.under, unders]) ⟨rfl, rfl⟩
  all_goals cases d2
  case false.false.true.false.true | true.false.true.false.true =>
    simp only [hc', hd1', hd2', ne_eq, not_false_eq_true, Option.map_some, Option.map_none, List.map_cons, List.map_nil, Bool.not_true, Bool.not_false, decide_true, decide_false, List.getElem?_cons_zero, List.getElem?_cons_succ, ↓aw1, ↓aw2, ↓aw17, aw3, aw4, aw5, aw6, aw7, aw8, aw9, aw10, aw11, aw12, aw13, aw14, aw15, aw16, Nat.reduceLeDiff, if_true, if_false, Nat.reduceEqDiff, Nat.reduceAdd, beq_self_eq_true, beq_true, beq_false, Bool.false_eq_true]
    exact Fin.same0 hcl (by simp [AV.under, unders]) ⟨rfl, rfl⟩
  all_goals
    simp only [hc', hd1', hd2', Bool.true_and, Bool.or_false, Bool.false_or, ne_eq, not_false_eq_true, Option.map_some, Option.map_none, List.map_cons, List.map_nil, Bool.not_true, Bool.not_false, decide_true, decide_false, List.getElem?_cons_zero, List.getElem?_cons_succ, ↓aw1, ↓aw2, ↓aw17, aw3, aw4, aw5, aw6, aw7, aw8, aw9, aw10, aw11, aw12, aw13, aw14, aw15, aw16, Nat.reduceLeDiff, if_true, if_false, Nat.reduceEqDiff, Nat.reduceAdd, beq_self_eq_true, beq_true, beq_false, Bool.false_eq_true]
    refine EvF.ret (peek_ev hs (by omega)) ?_
    simp only [ne_eq, not_false_eq_true, Option.map_some, Option.map_none, List.map_cons, List.map_nil, Bool.not_true, Bool.not_false, decide_true, decide_false, List.getElem?_cons_zero, List.getElem?_cons_succ, ↓aw1, ↓aw2, ↓aw17, aw3, aw4, aw5, aw6, aw7, aw8, aw9, aw10, aw11, aw12, aw13, aw14, aw15, aw16, Nat.reduceLeDiff, if_true, if_false, Nat.reduceEqDiff, Nat.reduceAdd, beq_self_eq_true, beq_true, beq_false, Bool.false_eq_true]
    refine EvF.ret (letter_ev _ h) ?_
    cases hl : isLet (pk b (at_ + n))
    · simp only [hs, hwN, ne_eq, not_false_eq_true, Option.map_some, Option.map_none, List.map_cons, List.map_nil, Bool.not_true, Bool.not_false, decide_true, decide_false, List.getElem?_cons_zero, List.getElem?_cons_succ, ↓aw1, ↓aw2, ↓aw17, aw3, aw4, aw5, aw6, aw7, aw8, aw9, aw10, aw11, aw12, aw13, aw14, aw15, aw16, Nat.reduceLeDiff, if_true, if_false, Nat.reduceEqDiff, Nat.reduceAdd, beq_self_eq_true, beq_true, beq_false, Bool.false_eq_true]
      refine Need.mk ⟨by omega, by omega, by simp; omega, .inr (byA_fit b)⟩ ?_
      have e1 : List.drop (Int.toNat (at_ : Int)) (List.take (Int.toNat ((at_ + n : Nat) : Int)) (byA b)) = byA ((b.drop at_).take n) := by
        simp only [Int.toNat_natCast, byA_take, byA_drop, List.drop_take]
        congr 2
        omega
      generalize hl2 : (b.drop at_).take n = l at e1
      have hll : l.length < 2 ^ 47 := by rw [← hl2]; simp; omega
      simp only [e1, bitesOf_byA, hwN, ne_eq, not_false_eq_true, Option.map_some, Option.map_none, List.map_cons, List.map_nil, Bool.not_true, Bool.not_false, decide_true, decide_false, List.getElem?_cons_zero, List.getElem?_cons_succ, ↓aw1, ↓aw2, ↓aw17, aw3, aw4, aw5, aw6, aw7, aw8, aw9, aw10, aw11, aw12, aw13, aw14, aw15, aw16, Nat.reduceLeDiff, if_true, if_false, Nat.reduceEqDiff, Nat.reduceAdd, beq_self_eq_true, beq_true, beq_false, Bool.false_eq_true]
      refine EvRF.ret (atoi_ev _ h (show l.length < 2 ^ 47 from hll)) ?_
      rw [show (⟨l.toArray⟩ : ByteArray).data.toList = l from rfl]
      unfold atoiv numv
      cases hv : Lib.atoiAll l with
      | ok v =>
        simp only [ne_eq, not_false_eq_true, Option.map_some, Option.map_none, List.map_cons, List.map_nil, Bool.not_true, Bool.not_false, decide_true, decide_false, List.getElem?_cons_zero, List.getElem?_cons_succ, ↓aw1, ↓aw2, ↓aw17, aw3, aw4, aw5, aw6, aw7, aw8, aw9, aw10, aw11, aw12, aw13, aw14, aw15, aw16, Nat.reduceLeDiff, if_true, if_false, Nat.reduceEqDiff, Nat.reduceAdd, beq_self_eq_true, beq_true, beq_false, Bool.false_eq_true]
        exact Fin.same0 hcl (by simp [AV.under, unders]) ⟨rfl, rfl⟩
      | _ =>
        simp only [ne_eq, not_false_eq_true, Option.map_some, Option.map_none, List.map_cons, List.map_nil, Bool.not_true, Bool.not_false, decide_true, decide_false, List.getElem?_cons_zero, List.getElem?_cons_succ, ↓aw1, ↓aw2, ↓aw17, aw3, aw4, aw5, aw6, aw7, aw8, aw9, aw10, aw11, aw12, aw13, aw14, aw15, aw16, Nat.reduceLeDiff, if_true, if_false, Nat.reduceEqDiff, Nat.reduceAdd, beq_self_eq_true, beq_true, beq_false, Bool.false_eq_true]
        exact Fin.same0 hcl (by simp [AV.under, unders]) ⟨rfl, rfl⟩
    · simp only [ne_eq, not_false_eq_true, Option.map_some, Option.map_none, List.map_cons, List.map_nil, Bool.not_true, Bool.not_false, decide_true, decide_false, List.getElem?_cons_zero, List.getElem?_cons_succ, ↓aw1, ↓aw2, ↓aw17, aw3, aw4, aw5, aw6, aw7, aw8, aw9, aw10, aw11, aw12, aw13, aw14, aw15, aw16, Nat.reduceLeDiff, if_true, if_false, Nat.reduceEqDiff, Nat.reduceAdd, beq_self_eq_true, beq_true, beq_false, Bool.false_eq_true]
      exact Fin.same0 hcl (by simp [AV.under, unders]) ⟨rfl, rfl⟩
end Go.Abs.T7
