/- The text of a call: numbers, arguments. -/
import Derived.Test.YtgbedffflggenaaDoorS18FrX
import Derived.Lib.ItoaLen
import Derived.Lib.AppendIntMem
set_option linter.all false
namespace Go.Abs.Fr
open Go Go.Abs Go.Proofs
set_option linter.unusedSimpArgs false
set_option maxRecDepth 100000

theorem g1 : Tryd.prog.globalNamed "internal/strconv.uint64pow10" = some 1 := by kernel_rfl

theorem itoa_ev (n : Int) (h0 : -9223372036854775808 ≤ n) (h1 : n ≤ 9223372036854775807) (h : List AObj) : EvR E0 81 [i64 n] h (str ⟨(Lib.itoa n).toArray⟩) := by
  refine ev_of_kit (fn := Tryd.f81) (c := (Tryd.f81.body).getD .skip) Tryd.func81 (by kernel_rfl) (by kernel_rfl) fun w g vs hg hgl ha => ?_
  obtain rfl := args_lit ha
  obtain ⟨us, hu1, hu2, ⟨e, fr, hu3⟩, _⟩ := hgl 1 (Lib.pow10Tab.map fun z => AV.lit (.int .u64 z)) rfl
  have hus : us = Lib.pow10Tab.map fun z => Value.int .u64 z := by
    have : ∀ (l : List Int) (us : List Value), Reps w g 0 (l.map fun z => AV.lit (.int .u64 z)) us → us = l.map fun z => Value.int .u64 z := by
      intro l
      induction l with
      | nil => intro us h; simpa [Reps] using h
      | cons z l ih =>
        intro us h
        obtain ⟨v, r, rfl, h2, h3⟩ := Reps.cons.1 h
        rw [Rep.lit_iff] at h2
        rw [h2, ih _ h3]; rfl
    exact this _ _ hu2
  refine (Tryd.strconv_Itoa n h0 h1 w (by
    unfold Lib.TabIs World.var?
    rw [g1]
    simp only [Option.bind_some, hu3, hus])).mono ?_
  rintro e' w' ⟨rfl, k, os, rfl⟩
  exact ⟨_, rfl, Lib.below_grow _ _ (Nat.le_refl _) _ _, fun g' => by simp [Rep]⟩

theorem add48 (u : Nat) (h : u < 10) : IntKind.u8.wrap (48 + IntKind.u8.wrap (u : Int)) = (((UInt8.ofNat (48 + u)).toNat : Nat) : Int) := by
  have : ∀ u : Nat, u < 10 → IntKind.u8.wrap (48 + IntKind.u8.wrap (u : Int)) = (((UInt8.ofNat (48 + u)).toNat : Nat) : Int) := by decide +kernel
  exact this u h

theorem digits_nat : ∀ (k u : Nat), u ≤ k → u ≤ 9223372036854775807 → ∀ (h : List AObj), EvR E0 67 [i64 (u : Int)] h (str ⟨(Lib.decDigits u).toArray⟩) := by
  intro k
  induction k using Nat.strongRecOn with
  | _ k ih =>
    intro u hk hu h
    refine ev_of (fn := Tryd.f67) (hs := []) Tryd.func67 c67 (by simp) fun hcl => ?_
    have n0 : decide ((u : Int) < 0) = false := by rw [decide_eq_false_iff_not]; omega
    have hlen : (Lib.decDigits u).length ≤ 21 := by
      have := Lib.itoa_length_le (u : Int) (by omega) (by omega)
      unfold Lib.itoa at this
      rw [if_neg (by omega)] at this
      simpa using this
    by_cases h10 : u < 10
    · have n1 : decide ((u : Int) < 10) = true := by rw [decide_eq_true_eq]; omega
      have e : Lib.decDigits u = [UInt8.ofNat (48 + u)] := Lib.decDigits_one h10
      have hb : bitesOf [AV.lit (.int .u8 (IntKind.u8.wrap (48 + IntKind.u8.wrap (u : Int))))] = some [UInt8.ofNat (48 + u)] := by
        rw [add48 u h10]; exact bitesOf_byA [UInt8.ofNat (48 + u)]
      simp only [ac67, n0, n1, ne_eq, not_false_eq_true, Option.map_some, Option.map_none, List.map_cons, List.map_nil, Bool.not_true, Bool.not_false, decide_true, decide_false, List.getElem?_cons_zero, List.getElem?_cons_succ, ↓aw1, ↓aw2, ↓aw17, aw3, aw4, aw5, aw6, aw7, aw8, aw9, aw10, aw11, aw12, aw13, aw14, aw15, aw16, aw19, Nat.reduceLeDiff, if_true, if_false, Nat.reduceEqDiff, Nat.reduceAdd, beq_self_eq_true, beq_true, beq_false, Bool.false_eq_true]
      refine Need.mk ⟨rfl, by decide, by decide, fun p hp => by simp only [List.mem_singleton] at hp; subst hp; exact ⟨rfl, rfl, rfl⟩⟩ ?_
      simp only [hb, ne_eq, not_false_eq_true, Option.map_some, Option.map_none, List.map_cons, List.map_nil, Bool.not_true, Bool.not_false, decide_true, decide_false, List.getElem?_cons_zero, List.getElem?_cons_succ, ↓aw1, ↓aw2, ↓aw17, aw3, aw4, aw5, aw6, aw7, aw8, aw9, aw10, aw11, aw12, aw13, aw14, aw15, aw16, aw19, Nat.reduceLeDiff, if_true, if_false, Nat.reduceEqDiff, Nat.reduceAdd, beq_self_eq_true, beq_true, beq_false, Bool.false_eq_true]
      rw [e]
      exact Fin.same0 hcl rfl ⟨rfl, rfl⟩
    · have n1 : decide ((u : Int) < 10) = false := by rw [decide_eq_false_iff_not]; omega
      have hm : u % 10 < 10 := Nat.mod_lt _ (by decide)
      have e : Lib.decDigits u = Lib.decDigits (u / 10) ++ [UInt8.ofNat (48 + u % 10)] := by rw [Lib.decDigits, dif_neg h10]
      have hq : IntKind.i64.wrap ((u : Int).tdiv 10) = ((u / 10 : Nat) : Int) := by
        rw [show (u : Int).tdiv 10 = ((u / 10 : Nat) : Int) from rfl, wrap_i64] <;> omega
      have hr : (u : Int).tmod 10 = ((u % 10 : Nat) : Int) := rfl
      have hb : bitesOf [AV.lit (.int .u8 (IntKind.u8.wrap (48 + IntKind.u8.wrap ((u % 10 : Nat) : Int))))] = some [UInt8.ofNat (48 + u % 10)] := by
        rw [add48 _ hm]; exact bitesOf_byA [UInt8.ofNat (48 + u % 10)]
      have hl2 : (Lib.decDigits u).length = (Lib.decDigits (u / 10)).length + 1 := by rw [e]; simp
      simp only [ac67, n0, n1, ne_eq, not_false_eq_true, Option.map_some, Option.map_none, List.map_cons, List.map_nil, Bool.not_true, Bool.not_false, decide_true, decide_false, List.getElem?_cons_zero, List.getElem?_cons_succ, ↓aw1, ↓aw2, ↓aw17, aw3, aw4, aw5, aw6, aw7, aw8, aw9, aw10, aw11, aw12, aw13, aw14, aw15, aw16, aw19, Nat.reduceLeDiff, if_true, if_false, Nat.reduceEqDiff, Nat.reduceAdd, beq_self_eq_true, beq_true, beq_false, Bool.false_eq_true]
      refine Need.mk (by decide) ?_
      simp only [hq, ne_eq, not_false_eq_true, Option.map_some, Option.map_none, List.map_cons, List.map_nil, Bool.not_true, Bool.not_false, decide_true, decide_false, List.getElem?_cons_zero, List.getElem?_cons_succ, ↓aw1, ↓aw2, ↓aw17, aw3, aw4, aw5, aw6, aw7, aw8, aw9, aw10, aw11, aw12, aw13, aw14, aw15, aw16, aw19, Nat.reduceLeDiff, if_true, if_false, Nat.reduceEqDiff, Nat.reduceAdd, beq_self_eq_true, beq_true, beq_false, Bool.false_eq_true]
      refine EvRF.ret (ih (u / 10) (by omega) (u / 10) (Nat.le_refl _) (by omega) h) ?_
      simp only [ne_eq, not_false_eq_true, Option.map_some, Option.map_none, List.map_cons, List.map_nil, Bool.not_true, Bool.not_false, decide_true, decide_false, List.getElem?_cons_zero, List.getElem?_cons_succ, ↓aw1, ↓aw2, ↓aw17, aw3, aw4, aw5, aw6, aw7, aw8, aw9, aw10, aw11, aw12, aw13, aw14, aw15, aw16, aw19, Nat.reduceLeDiff, if_true, if_false, Nat.reduceEqDiff, Nat.reduceAdd, beq_self_eq_true, beq_true, beq_false, Bool.false_eq_true]
      refine Need.mk (by decide) ?_
      simp only [hr, ne_eq, not_false_eq_true, Option.map_some, Option.map_none, List.map_cons, List.map_nil, Bool.not_true, Bool.not_false, decide_true, decide_false, List.getElem?_cons_zero, List.getElem?_cons_succ, ↓aw1, ↓aw2, ↓aw17, aw3, aw4, aw5, aw6, aw7, aw8, aw9, aw10, aw11, aw12, aw13, aw14, aw15, aw16, aw19, Nat.reduceLeDiff, if_true, if_false, Nat.reduceEqDiff, Nat.reduceAdd, beq_self_eq_true, beq_true, beq_false, Bool.false_eq_true]
      refine Need.mk ⟨rfl, by decide, by decide, fun p hp => by simp only [List.mem_singleton] at hp; subst hp; exact ⟨rfl, rfl, rfl⟩⟩ ?_
      simp only [hr, hb, ne_eq, not_false_eq_true, Option.map_some, Option.map_none, List.map_cons, List.map_nil, Bool.not_true, Bool.not_false, decide_true, decide_false, List.getElem?_cons_zero, List.getElem?_cons_succ, ↓aw1, ↓aw2, ↓aw17, aw3, aw4, aw5, aw6, aw7, aw8, aw9, aw10, aw11, aw12, aw13, aw14, aw15, aw16, aw19, Nat.reduceLeDiff, if_true, if_false, Nat.reduceEqDiff, Nat.reduceAdd, beq_self_eq_true, beq_true, beq_false, Bool.false_eq_true]
      refine Need.mk (by show (Lib.decDigits (u / 10)).length + 1 < 2 ^ 63; omega) ?_
      simp only [ne_eq, not_false_eq_true, Option.map_some, Option.map_none, List.map_cons, List.map_nil, Bool.not_true, Bool.not_false, decide_true, decide_false, List.getElem?_cons_zero, List.getElem?_cons_succ, ↓aw1, ↓aw2, ↓aw17, aw3, aw4, aw5, aw6, aw7, aw8, aw9, aw10, aw11, aw12, aw13, aw14, aw15, aw16, aw19, Nat.reduceLeDiff, if_true, if_false, Nat.reduceEqDiff, Nat.reduceAdd, beq_self_eq_true, beq_true, beq_false, Bool.false_eq_true]
      refine Fin.same0 hcl rfl ⟨?_, rfl⟩
      rw [e]
      simp only [str]
      congr 3

theorem ba_append (a b : List UInt8) : (⟨a.toArray⟩ : ByteArray) ++ ⟨b.toArray⟩ = ⟨(a ++ b).toArray⟩ := by
  apply ByteArray.ext
  simp [ByteArray.data_append]

/-- A number's digits, the document's. -/
theorem digits_ev (n : Int) (h0 : -9223372036854775808 < n) (h1 : n ≤ 9223372036854775807) (h : List AObj) : EvR E0 67 [i64 n] h (str ⟨(Lib.itoa n).toArray⟩) := by
  by_cases hn : n < 0
  · refine ev_of (fn := Tryd.f67) (hs := []) Tryd.func67 c67 (by simp) fun hcl => ?_
    have n0 : decide (n < 0) = true := by rw [decide_eq_true_eq]; exact hn
    have hw : IntKind.i64.wrap (0 - n) = ((n.natAbs : Nat) : Int) := by rw [wrap_i64] <;> omega
    have hlen : (Lib.decDigits n.natAbs).length ≤ 21 := by
      have := Lib.itoa_length_le ((n.natAbs : Nat) : Int) (by omega) (by omega)
      unfold Lib.itoa at this
      rw [if_neg (by omega)] at this
      simpa using this
    have ea : (⟨#[45]⟩ : ByteArray) ++ ⟨(Lib.decDigits n.natAbs).toArray⟩ = ⟨(Lib.itoa n).toArray⟩ := by
      rw [show (⟨#[45]⟩ : ByteArray) = ⟨([45] : List UInt8).toArray⟩ from rfl, ba_append]
      unfold Lib.itoa
      rw [if_pos hn]; rfl
    simp only [ac67, n0, hw, ne_eq, not_false_eq_true, Option.map_some, Option.map_none, List.map_cons, List.map_nil, Bool.not_true, Bool.not_false, decide_true, decide_false, List.getElem?_cons_zero, List.getElem?_cons_succ, ↓aw1, ↓aw2, ↓aw17, aw3, aw4, aw5, aw6, aw7, aw8, aw9, aw10, aw11, aw12, aw13, aw14, aw15, aw16, aw19, Nat.reduceLeDiff, if_true, if_false, Nat.reduceEqDiff, Nat.reduceAdd, beq_self_eq_true, beq_true, beq_false, Bool.false_eq_true]
    refine EvF.ret (digits_nat _ n.natAbs (Nat.le_refl _) (by omega) h) ?_
    simp only [ne_eq, not_false_eq_true, Option.map_some, Option.map_none, List.map_cons, List.map_nil, Bool.not_true, Bool.not_false, decide_true, decide_false, List.getElem?_cons_zero, List.getElem?_cons_succ, ↓aw1, ↓aw2, ↓aw17, aw3, aw4, aw5, aw6, aw7, aw8, aw9, aw10, aw11, aw12, aw13, aw14, aw15, aw16, aw19, Nat.reduceLeDiff, if_true, if_false, Nat.reduceEqDiff, Nat.reduceAdd, beq_self_eq_true, beq_true, beq_false, Bool.false_eq_true]
    refine Need.mk (by show 1 + (Lib.decDigits n.natAbs).length < 2 ^ 63; omega) ?_
    simp only [ea, ne_eq, not_false_eq_true, Option.map_some, Option.map_none, List.map_cons, List.map_nil, Bool.not_true, Bool.not_false, decide_true, decide_false, List.getElem?_cons_zero, List.getElem?_cons_succ, ↓aw1, ↓aw2, ↓aw17, aw3, aw4, aw5, aw6, aw7, aw8, aw9, aw10, aw11, aw12, aw13, aw14, aw15, aw16, aw19, Nat.reduceLeDiff, if_true, if_false, Nat.reduceEqDiff, Nat.reduceAdd, beq_self_eq_true, beq_true, beq_false, Bool.false_eq_true]
    exact Fin.same0 hcl rfl ⟨rfl, rfl⟩
  · obtain ⟨u, rfl⟩ : ∃ u : Nat, n = (u : Int) := ⟨n.toNat, by omega⟩
    have : Lib.itoa (u : Int) = Lib.decDigits u := by unfold Lib.itoa; rw [if_neg (by omega)]; simp
    rw [this]
    exact digits_nat u u (Nat.le_refl _) (by omega) h

/-- An argument's text. -/
def argt (a : Arg) : List UInt8 := if a.text then quo a.s.data.toList else Lib.itoa a.n
def argsT (l : List Arg) : List UInt8 := Lib.join (l.map argt) [44, 32]

theorem argt_len (a : Arg) : (argt a).length ≤ 21 * (1 + a.s.size) := by
  unfold argt
  split
  · have := quo_len a.s.data.toList
    have e : a.s.data.toList.length = a.s.size := by simp
    omega
  · have := Lib.itoa_length_le a.n a.hn.1 a.hn.2
    omega

theorem joinTail_len (l : List Arg) : (Lib.joinTail [44, 32] (l.map argt)).length ≤ 23 * wA l := by
  induction l with
  | nil => simp [Lib.joinTail, wA]
  | cons a l ih =>
    have h1 := argt_len a
    have h2 := ih
    simp only [Lib.joinTail, List.map_cons, List.flatten_cons, List.length_append, wA, List.length_cons, List.length_nil] at h2 ⊢
    omega
theorem argsT_len (l : List Arg) : (argsT l).length ≤ 23 * wA l := by
  cases l with
  | nil => simp [argsT, Lib.join_nil]
  | cons a l =>
    have h1 := argt_len a
    have h2 := joinTail_len l
    simp only [argsT, List.map_cons, Lib.join_cons, List.length_append, wA]
    omega

theorem join_ev (c : Cap) (l : List (List UInt8)) (hl : l.length ≤ 140737488355328) (hlen : (Lib.join l [44, 32]).length ≤ 140737488355328) (h : List AObj) :
    EvR E0 83 [.sl c (l.map fun x => str ⟨x.toArray⟩), str ⟨#[44, 32]⟩] h (str ⟨(Lib.join l [44, 32]).toArray⟩) := by
  refine ev_of_kit (fn := Tryd.f83) (c := (Tryd.f83.body).getD .skip) Tryd.func83 (by kernel_rfl) (by kernel_rfl) fun w g vs hg hgl ha => ?_
  have h1 := args_get ha
  obtain ⟨v, r, e1, h2, h3⟩ := Reps.cons.1 h1
  obtain ⟨v', r', e2, h4, h5⟩ := Reps.cons.1 h3
  rw [Reps.nil.1 h5] at e2
  rw [Rep.lit_iff] at h4
  subst h4 e2
  simp only [Rep] at h2
  obtain ⟨base, len, cap, rfl, q1, q2, _, q4, q5⟩ := h2
  have hvs : vs = #[.slice base len cap, .string ⟨#[44, 32]⟩] := Array.ext' e1
  subst hvs
  simp only [List.length_map] at q1
  subst q1
  by_cases h0 : l = []
  · subst h0
    refine (Tryd.strings_Join_none base cap ⟨#[44, 32]⟩ w).mono ?_
    rintro e w' ⟨rfl, rfl⟩
    exact ⟨_, rfl, Go.RowKit.Below.refl _ _, fun g' => by simp [Rep, Lib.join_nil]⟩
  · have hpos : 0 < l.length := by cases l with | nil => exact absurd rfl h0 | cons _ _ => simp
    obtain ⟨a, rfl⟩ : ∃ a, base = some a := by
      cases base with
      | none => have := q4 rfl; omega
      | some a => exact ⟨a, rfl⟩
    obtain ⟨hs, k, hels⟩ := q5 a rfl
    obtain ⟨b, o, sp⟩ := a
    have hs := hs (by omega)
    simp only at hs hels
    subst hs
    have hel : ∀ (i : Nat) x, l[i]? = some x → k = 1 ∧ w.cell? ⟨b, o + i, none⟩ = some (.string ⟨x.toArray⟩) := by
      intro i x hx
      obtain ⟨v, r1, r2, r3⟩ := hels.get i (str ⟨x.toArray⟩) (by rw [List.getElem?_map, hx]; rfl)
      rw [Rep.lit_iff] at r1
      subst r1
      simp only [Value.cells] at r2 r3
      have hk : k = 1 := by simpa using r2.symm
      subst hk
      have := (r3 0 _ rfl).1
      exact ⟨rfl, by simpa using this⟩
    have hb : b < w.heap.size := by
      obtain ⟨x, hx⟩ : ∃ x, l[0]? = some x := ⟨_, List.getElem?_eq_getElem hpos⟩
      exact World.block_lt_of_cell? w _ (hel 0 x hx).2
    have hmap : (l.map fun x => (⟨x.toArray⟩ : ByteArray)).map (·.data.toList) = l := by rw [List.map_map]; exact (List.map_congr_left (fun x _ => rfl)).trans (List.map_id l)
    have hj := Tryd.strings_Join b o cap (l.map fun x => ⟨x.toArray⟩) ⟨#[44, 32]⟩ w (fun j x hx => by
      rw [List.getElem?_map, Option.map_eq_some_iff] at hx
      obtain ⟨y, hy, rfl⟩ := hx
      exact (hel j y hy).2) hb (by simpa using hl) (by simpa using q2) (by rw [hmap]; exact hlen)
    rw [hmap] at hj
    simp only [List.length_map] at hj
    refine hj.mono ?_
    rintro e w' ⟨rfl, hbel⟩
    exact ⟨_, rfl, hbel, fun g' => by simp [Rep]⟩

/-- A call's text. -/
def callT (s : Stmt) : List UInt8 := 99 :: 46 :: (s.name.data.toList ++ (40 :: (argsT s.args ++ [41])))
end Go.Abs.Fr

namespace Go.Abs.Fr
open Go Go.Abs Go.Proofs
set_option linter.unusedSimpArgs false
set_option maxRecDepth 100000

theorem get0 (h : List AObj) (a : AObj) (l : List AObj) : (h ++ a :: l)[h.length]? = some a := by simp
theorem get0J (h : List AObj) (a o : AObj) (l : List AObj) : (h ++ a :: l ++ [o])[h.length]? = some a := by
  rw [List.append_assoc]; simp

/-- Texts as values. -/
abbrev strs (l : List (List UInt8)) : List AV := l.map fun x => str ⟨x.toArray⟩
theorem fits (l : List (List UInt8)) : Fit 1 (strs l) := by
  intro e he; obtain ⟨c, _, rfl⟩ := List.mem_map.1 he; exact ⟨rfl, rfl⟩
theorem ones (l : List (List UInt8)) : allOne (strs l) := by
  intro e he; obtain ⟨c, _, rfl⟩ := List.mem_map.1 he; rfl

theorem take_snoc {α β : Type} (f : α → β) (l : List α) (i : Nat) (x : α) (h : l[i]? = some x) : (l.take (i + 1)).map f = (l.take i).map f ++ [f x] := by
  obtain ⟨hi, he⟩ := List.getElem?_eq_some_iff.1 h
  rw [List.take_succ_eq_append_getElem hi, he]; simp

set_option maxHeartbeats 2000000 in
theorem call_ev (s : Stmt) (hw : wS s < 2 ^ 30) (h : List AObj) : EvR E0 65 [stmtv s] h (str ⟨(callT s).toArray⟩) := by
  have hws := wS_eq s
  have hla := wA_len s.args
  refine ev_of (fn := Tryd.f65) (hs := [(8, 0), (8, 4)]) Tryd.func65 c65 (by simp) fun hcl => ?_
  simp only [ac65, stmtv_eq, last_obj, List.drop_zero, List.drop_succ_cons, List.length_map, ne_eq, not_false_eq_true, Option.map_some, Option.map_none, List.map_cons, List.map_nil, Bool.not_true, Bool.not_false, decide_true, decide_false, List.getElem?_cons_zero, List.getElem?_cons_succ, ↓aw1, ↓aw2, ↓aw17, aw3, aw4, aw5, aw6, aw7, aw8, aw9, aw10, aw11, aw12, aw13, aw14, aw15, aw16, aw19, Nat.reduceLeDiff, if_true, if_false, Nat.reduceEqDiff, Nat.reduceAdd, beq_self_eq_true, beq_true, beq_false, Bool.false_eq_true]
  refine LoopF.by (α := Nat × Cap × List (List UInt8) × List AObj) (fun x => ⟨[(1, .ref h.length 0), (3, .sl x.2.1 (strs x.2.2.1)), (8, argsv s.args), (9, i64 s.args.length), (10, i64 x.1)],
      h ++ .cells [i64 s.op, str s.name, argsv s.args, bodyv s.thn, bodyv s.els] :: x.2.2.2⟩) (fun x => s.args.length - x.1)
    (fun x => x.1 ≤ s.args.length ∧ x.2.2.1 = (s.args.take x.1).map argt ∧ (x.2.1 = .own 1 ∨ x.2.1 = .full)) (0, .full, [], []) ⟨by omega, by simp, .inr rfl⟩ (weak_of rfl (by simp [look])) ?_
  rintro ⟨i, cap, out, J⟩ ⟨h1, h2, h3⟩
  simp only at h1 h2 h3
  have hol : out.length = i := by rw [h2]; simp; omega
  by_cases hi : i < s.args.length
  · obtain ⟨a, ha⟩ : ∃ a, s.args[i]? = some a := ⟨_, List.getElem?_eq_getElem hi⟩
    have e1 : decide ((i : Int) < (s.args.length : Int)) = true := by rw [decide_eq_true_eq]; omega
    have w3 : IntKind.i64.wrap ((i : Int) + 1) = ((i + 1 : Nat) : Int) := by rw [wrap_i64] <;> omega
    have hmem := List.mem_of_getElem? ha
    have hnum : -9223372036854775808 ≤ a.n ∧ a.n ≤ 9223372036854775807 := a.hn
    have hsz := wA_mem hmem
    have hsn := take_snoc argt _ i a ha
    simp only [e1, ne_eq, not_false_eq_true, Option.map_some, Option.map_none, List.map_cons, List.map_nil, Bool.not_true, Bool.not_false, decide_true, decide_false, List.getElem?_cons_zero, List.getElem?_cons_succ, ↓aw1, ↓aw2, ↓aw17, aw3, aw4, aw5, aw6, aw7, aw8, aw9, aw10, aw11, aw12, aw13, aw14, aw15, aw16, aw19, Nat.reduceLeDiff, if_true, if_false, Nat.reduceEqDiff, Nat.reduceAdd, beq_self_eq_true, beq_true, beq_false, Bool.false_eq_true]
    refine Need.mk ⟨by omega, by first | omega | (simp; omega)⟩ (Elem.recs (map_get argv s.args i a ha) ⟨rfl, rfl⟩ ?_)
    simp only [argv, getJ, setJ, get0J, List.take_succ_cons, List.take_zero, List.drop_zero, List.drop_succ_cons, ne_eq, not_false_eq_true, Option.map_some, Option.map_none, List.map_cons, List.map_nil, Bool.not_true, Bool.not_false, decide_true, decide_false, List.getElem?_cons_zero, List.getElem?_cons_succ, ↓aw1, ↓aw2, ↓aw17, aw3, aw4, aw5, aw6, aw7, aw8, aw9, aw10, aw11, aw12, aw13, aw14, aw15, aw16, aw19, Nat.reduceLeDiff, if_true, if_false, Nat.reduceEqDiff, Nat.reduceAdd, beq_self_eq_true, beq_true, beq_false, Bool.false_eq_true]
    refine EvF.ret (itoa_ev a.n hnum.1 hnum.2 _) ?_
    cases ht : a.text
    · have hat : argt a = Lib.itoa a.n := by unfold argt; rw [ht]; rfl
      rcases h3 with rfl | rfl
      all_goals
        simp only [getJ, setJ, get0J, List.take_succ_cons, List.take_zero, List.drop_zero, List.drop_succ_cons, ne_eq, not_false_eq_true, Option.map_some, Option.map_none, List.map_cons, List.map_nil, Bool.not_true, Bool.not_false, decide_true, decide_false, List.getElem?_cons_zero, List.getElem?_cons_succ, ↓aw1, ↓aw2, ↓aw17, aw3, aw4, aw5, aw6, aw7, aw8, aw9, aw10, aw11, aw12, aw13, aw14, aw15, aw16, aw19, Nat.reduceLeDiff, if_true, if_false, Nat.reduceEqDiff, Nat.reduceAdd, beq_self_eq_true, beq_true, beq_false, Bool.false_eq_true]
        refine Need.mk ⟨rfl, by decide, by decide, fun p hp => by simp only [List.mem_singleton] at hp; subst hp; exact ⟨rfl, rfl, rfl⟩⟩ ?_
        simp only [ne_eq, not_false_eq_true, Option.map_some, Option.map_none, List.map_cons, List.map_nil, Bool.not_true, Bool.not_false, decide_true, decide_false, List.getElem?_cons_zero, List.getElem?_cons_succ, ↓aw1, ↓aw2, ↓aw17, aw3, aw4, aw5, aw6, aw7, aw8, aw9, aw10, aw11, aw12, aw13, aw14, aw15, aw16, aw19, Nat.reduceLeDiff, if_true, if_false, Nat.reduceEqDiff, Nat.reduceAdd, beq_self_eq_true, beq_true, beq_false, Bool.false_eq_true]
        refine Need.mk ⟨by decide, by first | exact .inl trivial | exact .inr (fits _), fits [Lib.itoa a.n], ones [Lib.itoa a.n], by simp; omega, by simp; omega⟩ ?_
        simp only [w3, ne_eq, not_false_eq_true, Option.map_some, Option.map_none, List.map_cons, List.map_nil, Bool.not_true, Bool.not_false, decide_true, decide_false, List.getElem?_cons_zero, List.getElem?_cons_succ, ↓aw1, ↓aw2, ↓aw17, aw3, aw4, aw5, aw6, aw7, aw8, aw9, aw10, aw11, aw12, aw13, aw14, aw15, aw16, aw19, Nat.reduceLeDiff, if_true, if_false, Nat.reduceEqDiff, Nat.reduceAdd, beq_self_eq_true, beq_true, beq_false, Bool.false_eq_true]
        exact ⟨(i + 1, .own 1, out ++ [argt a], J ++ [.cells [boolv false, i64 a.n, str a.s]]), ⟨by simp only; omega, by simp only; rw [hsn, h2], .inl rfl⟩, by simp only; omega, weak_of (by simp) (by simp [look, hat])⟩
    · have hat : argt a = quo a.s.data.toList := by unfold argt; rw [ht]; rfl
      rcases h3 with rfl | rfl
      all_goals
        simp only [getJ, setJ, get0J, List.take_succ_cons, List.take_zero, List.drop_zero, List.drop_succ_cons, ne_eq, not_false_eq_true, Option.map_some, Option.map_none, List.map_cons, List.map_nil, Bool.not_true, Bool.not_false, decide_true, decide_false, List.getElem?_cons_zero, List.getElem?_cons_succ, ↓aw1, ↓aw2, ↓aw17, aw3, aw4, aw5, aw6, aw7, aw8, aw9, aw10, aw11, aw12, aw13, aw14, aw15, aw16, aw19, Nat.reduceLeDiff, if_true, if_false, Nat.reduceEqDiff, Nat.reduceAdd, beq_self_eq_true, beq_true, beq_false, Bool.false_eq_true]
        refine EvF.ret (quoted_ev a.s (by omega) _) ?_
        simp only [getJ, setJ, get0J, List.take_succ_cons, List.take_zero, List.drop_zero, List.drop_succ_cons, ne_eq, not_false_eq_true, Option.map_some, Option.map_none, List.map_cons, List.map_nil, Bool.not_true, Bool.not_false, decide_true, decide_false, List.getElem?_cons_zero, List.getElem?_cons_succ, ↓aw1, ↓aw2, ↓aw17, aw3, aw4, aw5, aw6, aw7, aw8, aw9, aw10, aw11, aw12, aw13, aw14, aw15, aw16, aw19, Nat.reduceLeDiff, if_true, if_false, Nat.reduceEqDiff, Nat.reduceAdd, beq_self_eq_true, beq_true, beq_false, Bool.false_eq_true]
        refine Need.mk ⟨rfl, by decide, by decide, fun p hp => by simp only [List.mem_singleton] at hp; subst hp; exact ⟨rfl, rfl, rfl⟩⟩ ?_
        simp only [ne_eq, not_false_eq_true, Option.map_some, Option.map_none, List.map_cons, List.map_nil, Bool.not_true, Bool.not_false, decide_true, decide_false, List.getElem?_cons_zero, List.getElem?_cons_succ, ↓aw1, ↓aw2, ↓aw17, aw3, aw4, aw5, aw6, aw7, aw8, aw9, aw10, aw11, aw12, aw13, aw14, aw15, aw16, aw19, Nat.reduceLeDiff, if_true, if_false, Nat.reduceEqDiff, Nat.reduceAdd, beq_self_eq_true, beq_true, beq_false, Bool.false_eq_true]
        refine Need.mk ⟨by decide, by first | exact .inl trivial | exact .inr (fits _), fits [quo a.s.data.toList], ones [quo a.s.data.toList], by simp; omega, by simp; omega⟩ ?_
        simp only [w3, ne_eq, not_false_eq_true, Option.map_some, Option.map_none, List.map_cons, List.map_nil, Bool.not_true, Bool.not_false, decide_true, decide_false, List.getElem?_cons_zero, List.getElem?_cons_succ, ↓aw1, ↓aw2, ↓aw17, aw3, aw4, aw5, aw6, aw7, aw8, aw9, aw10, aw11, aw12, aw13, aw14, aw15, aw16, aw19, Nat.reduceLeDiff, if_true, if_false, Nat.reduceEqDiff, Nat.reduceAdd, beq_self_eq_true, beq_true, beq_false, Bool.false_eq_true]
        exact ⟨(i + 1, .own 1, out ++ [argt a], J ++ [.cells [boolv true, i64 a.n, str a.s]]), ⟨by simp only; omega, by simp only; rw [hsn, h2], .inl rfl⟩, by simp only; omega, weak_of (by simp) (by simp [look, hat])⟩
  · have e1 : decide ((i : Int) < (s.args.length : Int)) = false := by rw [decide_eq_false_iff_not]; omega
    rw [List.take_of_length_le (by omega)] at h2
    have hal := argsT_len s.args
    have hjoin := fun c h => join_ev c out (by omega) (by rw [h2]; show (argsT s.args).length ≤ _; omega) h
    have hT : Lib.join out [44, 32] = argsT s.args := by rw [h2]; rfl
    rw [hT] at hjoin
    have a1 : (⟨#[99, 46]⟩ : ByteArray) ++ s.name = ⟨(99 :: 46 :: s.name.data.toList).toArray⟩ := by
      rw [show (⟨#[99, 46]⟩ : ByteArray) = ⟨([99, 46] : List UInt8).toArray⟩ from rfl, show s.name = ⟨s.name.data.toList.toArray⟩ from rfl, ba_append]; rfl
    have a2 : (⟨(99 :: 46 :: s.name.data.toList).toArray⟩ : ByteArray) ++ ⟨#[40]⟩ = ⟨(99 :: 46 :: (s.name.data.toList ++ [40])).toArray⟩ := by
      rw [show (⟨#[40]⟩ : ByteArray) = ⟨([40] : List UInt8).toArray⟩ from rfl, ba_append]; rfl
    have a3 : (⟨(99 :: 46 :: (s.name.data.toList ++ [40])).toArray⟩ : ByteArray) ++ ⟨(argsT s.args).toArray⟩ = ⟨(99 :: 46 :: (s.name.data.toList ++ [40] ++ argsT s.args)).toArray⟩ := by rw [ba_append]; rfl
    have a4 : (⟨(99 :: 46 :: (s.name.data.toList ++ [40] ++ argsT s.args)).toArray⟩ : ByteArray) ++ ⟨#[41]⟩ = ⟨(callT s).toArray⟩ := by
      rw [show (⟨#[41]⟩ : ByteArray) = ⟨([41] : List UInt8).toArray⟩ from rfl, ba_append]
      congr 2
      simp [callT]
    have hns : s.name.data.toList.length = s.name.size := by simp
    rcases h3 with rfl | rfl
    all_goals
      simp only [e1, get0, List.drop_zero, List.drop_succ_cons, ne_eq, not_false_eq_true, Option.map_some, Option.map_none, List.map_cons, List.map_nil, Bool.not_true, Bool.not_false, decide_true, decide_false, List.getElem?_cons_zero, List.getElem?_cons_succ, ↓aw1, ↓aw2, ↓aw17, aw3, aw4, aw5, aw6, aw7, aw8, aw9, aw10, aw11, aw12, aw13, aw14, aw15, aw16, aw19, Nat.reduceLeDiff, if_true, if_false, Nat.reduceEqDiff, Nat.reduceAdd, beq_self_eq_true, beq_true, beq_false, Bool.false_eq_true]
      refine Need.mk (by show 2 + s.name.size < 2 ^ 63; omega) ?_
      simp only [a1, ne_eq, not_false_eq_true, Option.map_some, Option.map_none, List.map_cons, List.map_nil, Bool.not_true, Bool.not_false, decide_true, decide_false, List.getElem?_cons_zero, List.getElem?_cons_succ, ↓aw1, ↓aw2, ↓aw17, aw3, aw4, aw5, aw6, aw7, aw8, aw9, aw10, aw11, aw12, aw13, aw14, aw15, aw16, aw19, Nat.reduceLeDiff, if_true, if_false, Nat.reduceEqDiff, Nat.reduceAdd, beq_self_eq_true, beq_true, beq_false, Bool.false_eq_true]
      refine Need.mk (by show (s.name.data.toList.length + 1 + 1) + 1 < 2 ^ 63; omega) ?_
      simp only [a2, ne_eq, not_false_eq_true, Option.map_some, Option.map_none, List.map_cons, List.map_nil, Bool.not_true, Bool.not_false, decide_true, decide_false, List.getElem?_cons_zero, List.getElem?_cons_succ, ↓aw1, ↓aw2, ↓aw17, aw3, aw4, aw5, aw6, aw7, aw8, aw9, aw10, aw11, aw12, aw13, aw14, aw15, aw16, aw19, Nat.reduceLeDiff, if_true, if_false, Nat.reduceEqDiff, Nat.reduceAdd, beq_self_eq_true, beq_true, beq_false, Bool.false_eq_true]
      refine EvRF.ret (hjoin _ _) ?_
      simp only [a1, a2, a3, ne_eq, not_false_eq_true, Option.map_some, Option.map_none, List.map_cons, List.map_nil, Bool.not_true, Bool.not_false, decide_true, decide_false, List.getElem?_cons_zero, List.getElem?_cons_succ, ↓aw1, ↓aw2, ↓aw17, aw3, aw4, aw5, aw6, aw7, aw8, aw9, aw10, aw11, aw12, aw13, aw14, aw15, aw16, aw19, Nat.reduceLeDiff, if_true, if_false, Nat.reduceEqDiff, Nat.reduceAdd, beq_self_eq_true, beq_true, beq_false, Bool.false_eq_true]
      refine Need.mk (by show (s.name.data.toList ++ [40]).length + 1 + 1 + (argsT s.args).length < 2 ^ 63; simp; omega) ?_
      simp only [a3, ne_eq, not_false_eq_true, Option.map_some, Option.map_none, List.map_cons, List.map_nil, Bool.not_true, Bool.not_false, decide_true, decide_false, List.getElem?_cons_zero, List.getElem?_cons_succ, ↓aw1, ↓aw2, ↓aw17, aw3, aw4, aw5, aw6, aw7, aw8, aw9, aw10, aw11, aw12, aw13, aw14, aw15, aw16, aw19, Nat.reduceLeDiff, if_true, if_false, Nat.reduceEqDiff, Nat.reduceAdd, beq_self_eq_true, beq_true, beq_false, Bool.false_eq_true]
      refine Need.mk (by show (s.name.data.toList ++ [40] ++ argsT s.args).length + 1 + 1 + 1 < 2 ^ 63; simp; omega) ?_
      simp only [a4, ne_eq, not_false_eq_true, Option.map_some, Option.map_none, List.map_cons, List.map_nil, Bool.not_true, Bool.not_false, decide_true, decide_false, List.getElem?_cons_zero, List.getElem?_cons_succ, ↓aw1, ↓aw2, ↓aw17, aw3, aw4, aw5, aw6, aw7, aw8, aw9, aw10, aw11, aw12, aw13, aw14, aw15, aw16, aw19, Nat.reduceLeDiff, if_true, if_false, Nat.reduceEqDiff, Nat.reduceAdd, beq_self_eq_true, beq_true, beq_false, Bool.false_eq_true]
      exact Fin.same hcl rfl ⟨rfl, rfl⟩

theorem argsT_snoc (l : List Arg) (i : Nat) (a : Arg) (h : l[i]? = some a) : argsT (l.take (i + 1)) = (if 0 < i then argsT (l.take i) ++ [44, 32] else argsT (l.take i)) ++ argt a := by
  obtain ⟨hi, he⟩ := List.getElem?_eq_some_iff.1 h
  cases l with
  | nil => simp at hi
  | cons b r =>
    unfold argsT
    cases i with
    | zero =>
      simp only [List.getElem?_cons_zero, Option.some.injEq] at h
      subst h
      simp [Lib.join_one, Lib.join_nil]
    | succ k =>
      simp only [List.getElem?_cons_succ] at h
      rw [if_pos (by omega)]
      simp only [List.take_succ_cons, List.map_cons, Lib.join_cons]
      have := Lib.joinTail_take_succ [44, 32] (r.map argt) k (argt a) (by rw [List.getElem?_map, h]; rfl)
      rw [← List.map_take, ← List.map_take] at this
      rw [this]
      simp [List.append_assoc]

theorem wA_take : ∀ (l : List Arg) (i : Nat), wA (l.take i) ≤ wA l
  | [], i => by simp [wA]
  | a :: l, 0 => by simp [wA]
  | a :: l, i + 1 => by have := wA_take l i; simp only [List.take_succ_cons, wA]; omega

theorem list_ev (l : List Arg) (hw : wA l < 2 ^ 30) (hok : ∀ a, a ∈ l → a.text = false → a.n ≠ -9223372036854775808) (h : List AObj) : EvR E0 49 [argsv l] h (str ⟨(argsT l).toArray⟩) := by
  refine ev_of (fn := Tryd.f49) (hs := []) Tryd.func49 c49 (by simp) fun hcl => ?_
  have hla := wA_len l
  simp only [ac49, List.length_map, ne_eq, not_false_eq_true, Option.map_some, Option.map_none, List.map_cons, List.map_nil, Bool.not_true, Bool.not_false, decide_true, decide_false, List.getElem?_cons_zero, List.getElem?_cons_succ, ↓aw1, ↓aw2, ↓aw17, aw3, aw4, aw5, aw6, aw7, aw8, aw9, aw10, aw11, aw12, aw13, aw14, aw15, aw16, aw19, Nat.reduceLeDiff, if_true, if_false, Nat.reduceEqDiff, Nat.reduceAdd, beq_self_eq_true, beq_true, beq_false, Bool.false_eq_true]
  refine LoopF.by (α := Nat) (fun i => ⟨[(0, argsv l), (3, str ⟨(argsT (l.take i)).toArray⟩), (4, i64 i)], h⟩) (fun i => l.length - i)
    (fun i => i ≤ l.length) 0 (Nat.zero_le _) (weak_of rfl (by simp [look, argsT, Lib.join_nil])) ?_
  rintro i h1
  have hal := argsT_len (l.take i)
  have hwt := wA_take l i
  by_cases hi : i < l.length
  · obtain ⟨a, ha⟩ : ∃ a, l[i]? = some a := ⟨_, List.getElem?_eq_getElem hi⟩
    have e1 : decide ((i : Int) < (l.length : Int)) = true := by rw [decide_eq_true_eq]; omega
    have w3 : IntKind.i64.wrap ((i : Int) + 1) = ((i + 1 : Nat) : Int) := by rw [wrap_i64] <;> omega
    have hmem := List.mem_of_getElem? ha
    have hnum : -9223372036854775808 ≤ a.n ∧ a.n ≤ 9223372036854775807 := a.hn
    have hsz := wA_mem hmem
    have hsn := argsT_snoc l i a ha
    have hat := argt_len a
    have s2 : (⟨(argsT (l.take i)).toArray⟩ : ByteArray) ++ ⟨#[44, 32]⟩ = ⟨(argsT (l.take i) ++ [44, 32]).toArray⟩ := by
      rw [show (⟨#[44, 32]⟩ : ByteArray) = ⟨([44, 32] : List UInt8).toArray⟩ from rfl, ba_append]
    -- what stands ahead of the argument
    generalize hP : (if 0 < i then argsT (l.take i) ++ [44, 32] else argsT (l.take i)) = P at hsn
    have hPl : P.length ≤ (argsT (l.take i)).length + 2 := by rw [← hP]; split <;> simp
    have hj : ∀ x : List UInt8, (⟨P.toArray⟩ : ByteArray) ++ ⟨x.toArray⟩ = ⟨(P ++ x).toArray⟩ := fun x => ba_append _ _
    have fin : ∀ (T : List (Nat × AV)), (i + 1 ≤ l.length) := fun _ => by omega
    cases i0 : decide ((0 : Int) < (i : Int))
    · have : P = argsT (l.take i) := by rw [← hP, if_neg]; intro h; rw [decide_eq_false_iff_not] at i0; omega
      subst this
      cases ht : a.text
      · have hat2 : argt a = Lib.itoa a.n := by unfold argt; rw [ht]; rfl
        have hne := hok a hmem ht
        simp only [e1, i0, List.length_map, ne_eq, not_false_eq_true, Option.map_some, Option.map_none, List.map_cons, List.map_nil, Bool.not_true, Bool.not_false, decide_true, decide_false, List.getElem?_cons_zero, List.getElem?_cons_succ, ↓aw1, ↓aw2, ↓aw17, aw3, aw4, aw5, aw6, aw7, aw8, aw9, aw10, aw11, aw12, aw13, aw14, aw15, aw16, aw19, Nat.reduceLeDiff, if_true, if_false, Nat.reduceEqDiff, Nat.reduceAdd, beq_self_eq_true, beq_true, beq_false, Bool.false_eq_true]
        refine Need.mk ⟨by omega, by first | omega | (simp; omega)⟩ (Elem.recs (map_get argv l i a ha) ⟨rfl, rfl⟩ ?_)
        simp only [argv, ht, List.length_map, List.drop_zero, List.drop_succ_cons, ne_eq, not_false_eq_true, Option.map_some, Option.map_none, List.map_cons, List.map_nil, Bool.not_true, Bool.not_false, decide_true, decide_false, List.getElem?_cons_zero, List.getElem?_cons_succ, ↓aw1, ↓aw2, ↓aw17, aw3, aw4, aw5, aw6, aw7, aw8, aw9, aw10, aw11, aw12, aw13, aw14, aw15, aw16, aw19, Nat.reduceLeDiff, if_true, if_false, Nat.reduceEqDiff, Nat.reduceAdd, beq_self_eq_true, beq_true, beq_false, Bool.false_eq_true]
        refine Need.mk ⟨by omega, by first | omega | (simp; omega)⟩ (Elem.recs (map_get argv l i a ha) ⟨rfl, rfl⟩ ?_)
        simp only [argv, ht, List.length_map, List.drop_zero, List.drop_succ_cons, ne_eq, not_false_eq_true, Option.map_some, Option.map_none, List.map_cons, List.map_nil, Bool.not_true, Bool.not_false, decide_true, decide_false, List.getElem?_cons_zero, List.getElem?_cons_succ, ↓aw1, ↓aw2, ↓aw17, aw3, aw4, aw5, aw6, aw7, aw8, aw9, aw10, aw11, aw12, aw13, aw14, aw15, aw16, aw19, Nat.reduceLeDiff, if_true, if_false, Nat.reduceEqDiff, Nat.reduceAdd, beq_self_eq_true, beq_true, beq_false, Bool.false_eq_true]
        refine EvF.ret (digits_ev a.n (by omega) hnum.2 h) ?_
        simp only [ne_eq, not_false_eq_true, Option.map_some, Option.map_none, List.map_cons, List.map_nil, Bool.not_true, Bool.not_false, decide_true, decide_false, List.getElem?_cons_zero, List.getElem?_cons_succ, ↓aw1, ↓aw2, ↓aw17, aw3, aw4, aw5, aw6, aw7, aw8, aw9, aw10, aw11, aw12, aw13, aw14, aw15, aw16, aw19, Nat.reduceLeDiff, if_true, if_false, Nat.reduceEqDiff, Nat.reduceAdd, beq_self_eq_true, beq_true, beq_false, Bool.false_eq_true]
        rw [hat2] at hat hsn
        refine Need.mk (by show (argsT (l.take i)).length + (Lib.itoa a.n).length < 2 ^ 63; omega) ?_
        simp only [hj, w3, ← hsn, ne_eq, not_false_eq_true, Option.map_some, Option.map_none, List.map_cons, List.map_nil, Bool.not_true, Bool.not_false, decide_true, decide_false, List.getElem?_cons_zero, List.getElem?_cons_succ, ↓aw1, ↓aw2, ↓aw17, aw3, aw4, aw5, aw6, aw7, aw8, aw9, aw10, aw11, aw12, aw13, aw14, aw15, aw16, aw19, Nat.reduceLeDiff, if_true, if_false, Nat.reduceEqDiff, Nat.reduceAdd, beq_self_eq_true, beq_true, beq_false, Bool.false_eq_true]
        exact ⟨i + 1, by omega, by omega, weak_of rfl (by simp [look])⟩
      · have hat2 : argt a = quo a.s.data.toList := by unfold argt; rw [ht]; rfl
        simp only [e1, i0, List.length_map, ne_eq, not_false_eq_true, Option.map_some, Option.map_none, List.map_cons, List.map_nil, Bool.not_true, Bool.not_false, decide_true, decide_false, List.getElem?_cons_zero, List.getElem?_cons_succ, ↓aw1, ↓aw2, ↓aw17, aw3, aw4, aw5, aw6, aw7, aw8, aw9, aw10, aw11, aw12, aw13, aw14, aw15, aw16, aw19, Nat.reduceLeDiff, if_true, if_false, Nat.reduceEqDiff, Nat.reduceAdd, beq_self_eq_true, beq_true, beq_false, Bool.false_eq_true]
        refine Need.mk ⟨by omega, by first | omega | (simp; omega)⟩ (Elem.recs (map_get argv l i a ha) ⟨rfl, rfl⟩ ?_)
        simp only [argv, ht, List.length_map, List.drop_zero, List.drop_succ_cons, ne_eq, not_false_eq_true, Option.map_some, Option.map_none, List.map_cons, List.map_nil, Bool.not_true, Bool.not_false, decide_true, decide_false, List.getElem?_cons_zero, List.getElem?_cons_succ, ↓aw1, ↓aw2, ↓aw17, aw3, aw4, aw5, aw6, aw7, aw8, aw9, aw10, aw11, aw12, aw13, aw14, aw15, aw16, aw19, Nat.reduceLeDiff, if_true, if_false, Nat.reduceEqDiff, Nat.reduceAdd, beq_self_eq_true, beq_true, beq_false, Bool.false_eq_true]
        refine Need.mk ⟨by omega, by first | omega | (simp; omega)⟩ (Elem.recs (map_get argv l i a ha) ⟨rfl, rfl⟩ ?_)
        simp only [argv, ht, List.length_map, List.drop_zero, List.drop_succ_cons, ne_eq, not_false_eq_true, Option.map_some, Option.map_none, List.map_cons, List.map_nil, Bool.not_true, Bool.not_false, decide_true, decide_false, List.getElem?_cons_zero, List.getElem?_cons_succ, ↓aw1, ↓aw2, ↓aw17, aw3, aw4, aw5, aw6, aw7, aw8, aw9, aw10, aw11, aw12, aw13, aw14, aw15, aw16, aw19, Nat.reduceLeDiff, if_true, if_false, Nat.reduceEqDiff, Nat.reduceAdd, beq_self_eq_true, beq_true, beq_false, Bool.false_eq_true]
        refine EvF.ret (rquoted_ev a.s (by omega) h) ?_
        simp only [ne_eq, not_false_eq_true, Option.map_some, Option.map_none, List.map_cons, List.map_nil, Bool.not_true, Bool.not_false, decide_true, decide_false, List.getElem?_cons_zero, List.getElem?_cons_succ, ↓aw1, ↓aw2, ↓aw17, aw3, aw4, aw5, aw6, aw7, aw8, aw9, aw10, aw11, aw12, aw13, aw14, aw15, aw16, aw19, Nat.reduceLeDiff, if_true, if_false, Nat.reduceEqDiff, Nat.reduceAdd, beq_self_eq_true, beq_true, beq_false, Bool.false_eq_true]
        rw [hat2] at hat hsn
        refine Need.mk (by show (argsT (l.take i)).length + (quo a.s.data.toList).length < 2 ^ 63; omega) ?_
        simp only [hj, w3, ← hsn, ne_eq, not_false_eq_true, Option.map_some, Option.map_none, List.map_cons, List.map_nil, Bool.not_true, Bool.not_false, decide_true, decide_false, List.getElem?_cons_zero, List.getElem?_cons_succ, ↓aw1, ↓aw2, ↓aw17, aw3, aw4, aw5, aw6, aw7, aw8, aw9, aw10, aw11, aw12, aw13, aw14, aw15, aw16, aw19, Nat.reduceLeDiff, if_true, if_false, Nat.reduceEqDiff, Nat.reduceAdd, beq_self_eq_true, beq_true, beq_false, Bool.false_eq_true]
        exact ⟨i + 1, by omega, by omega, weak_of rfl (by simp [look])⟩
    · have : P = argsT (l.take i) ++ [44, 32] := by rw [← hP, if_pos]; rw [decide_eq_true_eq] at i0; omega
      subst this
      cases ht : a.text
      · have hat2 : argt a = Lib.itoa a.n := by unfold argt; rw [ht]; rfl
        have hne := hok a hmem ht
        simp only [e1, i0, List.length_map, ne_eq, not_false_eq_true, Option.map_some, Option.map_none, List.map_cons, List.map_nil, Bool.not_true, Bool.not_false, decide_true, decide_false, List.getElem?_cons_zero, List.getElem?_cons_succ, ↓aw1, ↓aw2, ↓aw17, aw3, aw4, aw5, aw6, aw7, aw8, aw9, aw10, aw11, aw12, aw13, aw14, aw15, aw16, aw19, Nat.reduceLeDiff, if_true, if_false, Nat.reduceEqDiff, Nat.reduceAdd, beq_self_eq_true, beq_true, beq_false, Bool.false_eq_true]
        refine Need.mk (by show (argsT (l.take i)).length + 2 < 2 ^ 63; omega) ?_
        simp only [s2, List.length_map, ne_eq, not_false_eq_true, Option.map_some, Option.map_none, List.map_cons, List.map_nil, Bool.not_true, Bool.not_false, decide_true, decide_false, List.getElem?_cons_zero, List.getElem?_cons_succ, ↓aw1, ↓aw2, ↓aw17, aw3, aw4, aw5, aw6, aw7, aw8, aw9, aw10, aw11, aw12, aw13, aw14, aw15, aw16, aw19, Nat.reduceLeDiff, if_true, if_false, Nat.reduceEqDiff, Nat.reduceAdd, beq_self_eq_true, beq_true, beq_false, Bool.false_eq_true]
        refine Need.mk ⟨by omega, by first | omega | (simp; omega)⟩ (Elem.recs (map_get argv l i a ha) ⟨rfl, rfl⟩ ?_)
        simp only [argv, ht, List.length_map, List.drop_zero, List.drop_succ_cons, ne_eq, not_false_eq_true, Option.map_some, Option.map_none, List.map_cons, List.map_nil, Bool.not_true, Bool.not_false, decide_true, decide_false, List.getElem?_cons_zero, List.getElem?_cons_succ, ↓aw1, ↓aw2, ↓aw17, aw3, aw4, aw5, aw6, aw7, aw8, aw9, aw10, aw11, aw12, aw13, aw14, aw15, aw16, aw19, Nat.reduceLeDiff, if_true, if_false, Nat.reduceEqDiff, Nat.reduceAdd, beq_self_eq_true, beq_true, beq_false, Bool.false_eq_true]
        refine Need.mk ⟨by omega, by first | omega | (simp; omega)⟩ (Elem.recs (map_get argv l i a ha) ⟨rfl, rfl⟩ ?_)
        simp only [argv, ht, List.length_map, List.drop_zero, List.drop_succ_cons, ne_eq, not_false_eq_true, Option.map_some, Option.map_none, List.map_cons, List.map_nil, Bool.not_true, Bool.not_false, decide_true, decide_false, List.getElem?_cons_zero, List.getElem?_cons_succ, ↓aw1, ↓aw2, ↓aw17, aw3, aw4, aw5, aw6, aw7, aw8, aw9, aw10, aw11, aw12, aw13, aw14, aw15, aw16, aw19, Nat.reduceLeDiff, if_true, if_false, Nat.reduceEqDiff, Nat.reduceAdd, beq_self_eq_true, beq_true, beq_false, Bool.false_eq_true]
        refine EvF.ret (digits_ev a.n (by omega) hnum.2 h) ?_
        simp only [ne_eq, not_false_eq_true, Option.map_some, Option.map_none, List.map_cons, List.map_nil, Bool.not_true, Bool.not_false, decide_true, decide_false, List.getElem?_cons_zero, List.getElem?_cons_succ, ↓aw1, ↓aw2, ↓aw17, aw3, aw4, aw5, aw6, aw7, aw8, aw9, aw10, aw11, aw12, aw13, aw14, aw15, aw16, aw19, Nat.reduceLeDiff, if_true, if_false, Nat.reduceEqDiff, Nat.reduceAdd, beq_self_eq_true, beq_true, beq_false, Bool.false_eq_true]
        rw [hat2] at hat hsn
        refine Need.mk (by show (argsT (l.take i) ++ [44, 32]).length + (Lib.itoa a.n).length < 2 ^ 63; simp only [List.length_append, List.length_cons, List.length_nil]; omega) ?_
        simp only [hj, w3, ← hsn, ne_eq, not_false_eq_true, Option.map_some, Option.map_none, List.map_cons, List.map_nil, Bool.not_true, Bool.not_false, decide_true, decide_false, List.getElem?_cons_zero, List.getElem?_cons_succ, ↓aw1, ↓aw2, ↓aw17, aw3, aw4, aw5, aw6, aw7, aw8, aw9, aw10, aw11, aw12, aw13, aw14, aw15, aw16, aw19, Nat.reduceLeDiff, if_true, if_false, Nat.reduceEqDiff, Nat.reduceAdd, beq_self_eq_true, beq_true, beq_false, Bool.false_eq_true]
        exact ⟨i + 1, by omega, by omega, weak_of rfl (by simp [look])⟩
      · have hat2 : argt a = quo a.s.data.toList := by unfold argt; rw [ht]; rfl
        simp only [e1, i0, List.length_map, ne_eq, not_false_eq_true, Option.map_some, Option.map_none, List.map_cons, List.map_nil, Bool.not_true, Bool.not_false, decide_true, decide_false, List.getElem?_cons_zero, List.getElem?_cons_succ, ↓aw1, ↓aw2, ↓aw17, aw3, aw4, aw5, aw6, aw7, aw8, aw9, aw10, aw11, aw12, aw13, aw14, aw15, aw16, aw19, Nat.reduceLeDiff, if_true, if_false, Nat.reduceEqDiff, Nat.reduceAdd, beq_self_eq_true, beq_true, beq_false, Bool.false_eq_true]
        refine Need.mk (by show (argsT (l.take i)).length + 2 < 2 ^ 63; omega) ?_
        simp only [s2, List.length_map, ne_eq, not_false_eq_true, Option.map_some, Option.map_none, List.map_cons, List.map_nil, Bool.not_true, Bool.not_false, decide_true, decide_false, List.getElem?_cons_zero, List.getElem?_cons_succ, ↓aw1, ↓aw2, ↓aw17, aw3, aw4, aw5, aw6, aw7, aw8, aw9, aw10, aw11, aw12, aw13, aw14, aw15, aw16, aw19, Nat.reduceLeDiff, if_true, if_false, Nat.reduceEqDiff, Nat.reduceAdd, beq_self_eq_true, beq_true, beq_false, Bool.false_eq_true]
        refine Need.mk ⟨by omega, by first | omega | (simp; omega)⟩ (Elem.recs (map_get argv l i a ha) ⟨rfl, rfl⟩ ?_)
        simp only [argv, ht, List.length_map, List.drop_zero, List.drop_succ_cons, ne_eq, not_false_eq_true, Option.map_some, Option.map_none, List.map_cons, List.map_nil, Bool.not_true, Bool.not_false, decide_true, decide_false, List.getElem?_cons_zero, List.getElem?_cons_succ, ↓aw1, ↓aw2, ↓aw17, aw3, aw4, aw5, aw6, aw7, aw8, aw9, aw10, aw11, aw12, aw13, aw14, aw15, aw16, aw19, Nat.reduceLeDiff, if_true, if_false, Nat.reduceEqDiff, Nat.reduceAdd, beq_self_eq_true, beq_true, beq_false, Bool.false_eq_true]
        refine Need.mk ⟨by omega, by first | omega | (simp; omega)⟩ (Elem.recs (map_get argv l i a ha) ⟨rfl, rfl⟩ ?_)
        simp only [argv, ht, List.length_map, List.drop_zero, List.drop_succ_cons, ne_eq, not_false_eq_true, Option.map_some, Option.map_none, List.map_cons, List.map_nil, Bool.not_true, Bool.not_false, decide_true, decide_false, List.getElem?_cons_zero, List.getElem?_cons_succ, ↓aw1, ↓aw2, ↓aw17, aw3, aw4, aw5, aw6, aw7, aw8, aw9, aw10, aw11, aw12, aw13, aw14, aw15, aw16, aw19, Nat.reduceLeDiff, if_true, if_false, Nat.reduceEqDiff, Nat.reduceAdd, beq_self_eq_true, beq_true, beq_false, Bool.false_eq_true]
        refine EvF.ret (rquoted_ev a.s (by omega) h) ?_
        simp only [ne_eq, not_false_eq_true, Option.map_some, Option.map_none, List.map_cons, List.map_nil, Bool.not_true, Bool.not_false, decide_true, decide_false, List.getElem?_cons_zero, List.getElem?_cons_succ, ↓aw1, ↓aw2, ↓aw17, aw3, aw4, aw5, aw6, aw7, aw8, aw9, aw10, aw11, aw12, aw13, aw14, aw15, aw16, aw19, Nat.reduceLeDiff, if_true, if_false, Nat.reduceEqDiff, Nat.reduceAdd, beq_self_eq_true, beq_true, beq_false, Bool.false_eq_true]
        rw [hat2] at hat hsn
        refine Need.mk (by show (argsT (l.take i) ++ [44, 32]).length + (quo a.s.data.toList).length < 2 ^ 63; simp only [List.length_append, List.length_cons, List.length_nil]; omega) ?_
        simp only [hj, w3, ← hsn, ne_eq, not_false_eq_true, Option.map_some, Option.map_none, List.map_cons, List.map_nil, Bool.not_true, Bool.not_false, decide_true, decide_false, List.getElem?_cons_zero, List.getElem?_cons_succ, ↓aw1, ↓aw2, ↓aw17, aw3, aw4, aw5, aw6, aw7, aw8, aw9, aw10, aw11, aw12, aw13, aw14, aw15, aw16, aw19, Nat.reduceLeDiff, if_true, if_false, Nat.reduceEqDiff, Nat.reduceAdd, beq_self_eq_true, beq_true, beq_false, Bool.false_eq_true]
        exact ⟨i + 1, by omega, by omega, weak_of rfl (by simp [look])⟩
  · have e1 : decide ((i : Int) < (l.length : Int)) = false := by rw [decide_eq_false_iff_not]; omega
    rw [List.take_of_length_le (by omega)]
    simp only [e1, List.length_map, ne_eq, not_false_eq_true, Option.map_some, Option.map_none, List.map_cons, List.map_nil, Bool.not_true, Bool.not_false, decide_true, decide_false, List.getElem?_cons_zero, List.getElem?_cons_succ, ↓aw1, ↓aw2, ↓aw17, aw3, aw4, aw5, aw6, aw7, aw8, aw9, aw10, aw11, aw12, aw13, aw14, aw15, aw16, aw19, Nat.reduceLeDiff, if_true, if_false, Nat.reduceEqDiff, Nat.reduceAdd, beq_self_eq_true, beq_true, beq_false, Bool.false_eq_true]
    exact Fin.same0 hcl rfl ⟨rfl, rfl⟩
end Go.Abs.Fr
