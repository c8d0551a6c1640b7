/- strconv.Itoa; the document's digits. -/
import Derived.Test.YthhhpaifelgcpaaDoorS08FrC
import Derived.Test.YthhhpaifelgcpaaDoorS08ShItoa
import Derived.Lib.ItoaLen
import Derived.Lib.AppendIntMem
set_option linter.all false
namespace Go.Abs.Fr
open Go Go.Abs Go.Proofs
set_option linter.unusedSimpArgs false
set_option maxRecDepth 100000

/-- spandrel/spandrelref08.Digits -/
def ac50 : ACode := (.seq (.region [⟨(some 2), (.move (.const (.string (⟨#[]⟩ : ByteArray)))), none⟩]) (.seq (.seq (.region [⟨(some 3), (.move (.tmp 0)), none⟩, ⟨(some 4), (.bin .lss (.tmp 3) (.const (.int .i64 0))), none⟩]) (.cond (.tmp 4) (.seq (.region [⟨(some 5), (.move (.tmp 0)), none⟩, ⟨(some 6), (.un .neg (.tmp 5)), none⟩, ⟨(some 7), (.call (.func 50) [((.tmp 6), false)]), none⟩, ⟨(some 8), (.bin .add (.const (.string (⟨#[45]⟩ : ByteArray))) (.tmp 7)), none⟩, ⟨(some 2), (.move (.tmp 8)), none⟩]) .ret) .skip)) (.seq (.seq (.region [⟨(some 9), (.move (.tmp 0)), none⟩, ⟨(some 10), (.bin .lss (.tmp 9) (.const (.int .i64 10))), none⟩]) (.cond (.tmp 10) (.seq (.region [⟨(some 11), (.move (.tmp 0)), none⟩, ⟨(some 12), (.conv .u8 (.tmp 11)), none⟩, ⟨(some 13), (.bin .add (.const (.int .u8 48)) (.tmp 12)), none⟩, ⟨(some 14), (.buildSlice false 1 [(.lit (.int .u8 0))] 1 [(0, (.tmp 13))]), none⟩, ⟨(some 15), (.toStr (.tmp 14)), none⟩, ⟨(some 2), (.move (.tmp 15)), none⟩]) .ret) .skip)) (.seq (.draw [⟨(some 16), (.move (.tmp 0)), none⟩, ⟨(some 17), (.bin .quo (.tmp 16) (.const (.int .i64 10))), none⟩, ⟨(some 18), (.call (.func 50) [((.tmp 17), false)]), none⟩, ⟨(some 19), (.move (.tmp 0)), none⟩, ⟨(some 20), (.bin .rem (.tmp 19) (.const (.int .i64 10))), none⟩, ⟨(some 21), (.conv .u8 (.tmp 20)), none⟩, ⟨(some 22), (.bin .add (.const (.int .u8 48)) (.tmp 21)), none⟩, ⟨(some 23), (.buildSlice false 1 [(.lit (.int .u8 0))] 1 [(0, (.tmp 22))]), none⟩, ⟨(some 24), (.toStr (.tmp 23)), none⟩, ⟨(some 25), (.bin .add (.tmp 18) (.tmp 24)), none⟩, ⟨(some 2), (.move (.tmp 25)), none⟩]) .ret))))
theorem c50 : cfn E0.P [] Tryd.f50 = some (ac50, [(.tmp 2)], 26) := by kernel_rfl

theorem g1 : Tryd.prog.globalNamed "internal/strconv.uint64pow10" = some 3 := by kernel_rfl
theorem itoa_ev (n : Int) (h0 : -9223372036854775808 ≤ n) (h1 : n ≤ 9223372036854775807) (h : List AObj) : EvR E0 62 [i64 n] h (str ⟨(Lib.itoa n).toArray⟩) := by
  refine ev_of_kit (fn := Tryd.f62) (c := (Tryd.f62.body).getD .skip) Tryd.func62 (by kernel_rfl) (by kernel_rfl) fun w g vs hg hgl ha => ?_
  obtain rfl := args_lit ha
  obtain ⟨us, hu1, hu2, ⟨e, fr, hu3⟩, _⟩ := hgl 3 (Lib.pow10Tab.map fun z => AV.lit (.int .u64 z)) rfl
  have hus : us = Lib.pow10Tab.map fun z => Value.int .u64 z := by
    have : ∀ (l : List Int) (us : List Value), Reps w g 0 (l.map fun z => AV.lit (.int .u64 z)) us → us = l.map fun z => Value.int .u64 z := by
      intro l
      induction l with
      | nil => intro us h; simpa [Reps] using h
      | cons z l ih =>
        intro us h
        obtain ⟨v, r, rfl, h2, h3⟩ := Reps.cons.1 h
        rw [Rep.lit_iff] at h2
        rw [h2, ih _ h3]; rfl
    exact this _ _ hu2
  refine (Tryd.strconv_Itoa n h0 h1 w (by
    unfold Lib.TabIs World.var?
    rw [g1]
    simp only [Option.bind_some, hu3, hus])).mono ?_
  rintro e' w' ⟨rfl, k, os, rfl⟩
  exact ⟨_, rfl, Lib.below_grow _ _ (Nat.le_refl _) _ _, fun g' => by simp [Rep]⟩
theorem add48 (u : Nat) (h : u < 10) : IntKind.u8.wrap (48 + IntKind.u8.wrap (u : Int)) = (((UInt8.ofNat (48 + u)).toNat : Nat) : Int) := by
  have : ∀ u : Nat, u < 10 → IntKind.u8.wrap (48 + IntKind.u8.wrap (u : Int)) = (((UInt8.ofNat (48 + u)).toNat : Nat) : Int) := by decide +kernel
  exact this u h
theorem digits_nat : ∀ (k u : Nat), u ≤ k → u ≤ 9223372036854775807 → ∀ (h : List AObj), EvR E0 50 [i64 (u : Int)] h (str ⟨(Lib.decDigits u).toArray⟩) := by
  intro k
  induction k using Nat.strongRecOn with
  | _ k ih =>
    intro u hk hu h
    refine ev_of (fn := Tryd.f50) (hs := []) Tryd.func50 c50 (by simp) fun hcl => ?_
    have n0 : decide ((u : Int) < 0) = false := by rw [decide_eq_false_iff_not]; omega
    have hlen : (Lib.decDigits u).length ≤ 21 := by
      have := Lib.itoa_length_le (u : Int) (by omega) (by omega)
      unfold Lib.itoa at this
      rw [if_neg (by omega)] at this
      simpa using this
    by_cases h10 : u < 10
    · have n1 : decide ((u : Int) < 10) = true := by rw [decide_eq_true_eq]; omega
      have e : Lib.decDigits u = [UInt8.ofNat (48 + u)] := Lib.decDigits_one h10
      have hb : bitesOf [AV.lit (.int .u8 (IntKind.u8.wrap (48 + IntKind.u8.wrap (u : Int))))] = some [UInt8.ofNat (48 + u)] := by
        rw [add48 u h10]; exact bitesOf_byA [UInt8.ofNat (48 + u)]
      simp only [ac50, n0, n1, ↓awD, awP, Nat.reduceLeDiff, Nat.reduceEqDiff, Nat.reduceAdd, Nat.zero_add, Int.cast_ofNat_Int, Int.reduceLT, Int.reduceLE, Int.reduceEq]
      refine Need.mk ⟨rfl, by decide, by decide, fun p hp => by simp only [List.mem_singleton] at hp; subst hp; exact ⟨rfl, rfl, rfl⟩⟩ ?_
      simp only [hb, ↓awD, awP, Nat.reduceLeDiff, Nat.reduceEqDiff, Nat.reduceAdd, Nat.zero_add, Int.cast_ofNat_Int, Int.reduceLT, Int.reduceLE, Int.reduceEq]
      rw [e]
      exact Fin.same0 hcl rfl ⟨rfl, rfl⟩
    · have n1 : decide ((u : Int) < 10) = false := by rw [decide_eq_false_iff_not]; omega
      have hm : u % 10 < 10 := Nat.mod_lt _ (by decide)
      have e : Lib.decDigits u = Lib.decDigits (u / 10) ++ [UInt8.ofNat (48 + u % 10)] := by rw [Lib.decDigits, dif_neg h10]
      have hq : IntKind.i64.wrap ((u : Int).tdiv 10) = ((u / 10 : Nat) : Int) := by
        rw [show (u : Int).tdiv 10 = ((u / 10 : Nat) : Int) from rfl, wrap_i64] <;> omega
      have hr : (u : Int).tmod 10 = ((u % 10 : Nat) : Int) := rfl
      have hb : bitesOf [AV.lit (.int .u8 (IntKind.u8.wrap (48 + IntKind.u8.wrap ((u % 10 : Nat) : Int))))] = some [UInt8.ofNat (48 + u % 10)] := by
        rw [add48 _ hm]; exact bitesOf_byA [UInt8.ofNat (48 + u % 10)]
      have hl2 : (Lib.decDigits u).length = (Lib.decDigits (u / 10)).length + 1 := by rw [e]; simp
      simp only [ac50, n0, n1, ↓awD, awP, Nat.reduceLeDiff, Nat.reduceEqDiff, Nat.reduceAdd, Nat.zero_add, Int.cast_ofNat_Int, Int.reduceLT, Int.reduceLE, Int.reduceEq]
      try refine Need.mk (by decide) ?_
      simp only [hq, ↓awD, awP, Nat.reduceLeDiff, Nat.reduceEqDiff, Nat.reduceAdd, Nat.zero_add, Int.cast_ofNat_Int, Int.reduceLT, Int.reduceLE, Int.reduceEq]
      refine EvRF.ret (ih (u / 10) (by omega) (u / 10) (Nat.le_refl _) (by omega) h) ?_
      simp only [↓awD, awP, Nat.reduceLeDiff, Nat.reduceEqDiff, Nat.reduceAdd, Nat.zero_add, Int.cast_ofNat_Int, Int.reduceLT, Int.reduceLE, Int.reduceEq]
      try refine Need.mk (by decide) ?_
      simp only [hr, ↓awD, awP, Nat.reduceLeDiff, Nat.reduceEqDiff, Nat.reduceAdd, Nat.zero_add, Int.cast_ofNat_Int, Int.reduceLT, Int.reduceLE, Int.reduceEq]
      refine Need.mk ⟨rfl, by decide, by decide, fun p hp => by simp only [List.mem_singleton] at hp; subst hp; exact ⟨rfl, rfl, rfl⟩⟩ ?_
      simp only [hr, hb, ↓awD, awP, Nat.reduceLeDiff, Nat.reduceEqDiff, Nat.reduceAdd, Nat.zero_add, Int.cast_ofNat_Int, Int.reduceLT, Int.reduceLE, Int.reduceEq]
      refine Need.mk (by show (Lib.decDigits (u / 10)).length + 1 < 2 ^ 63; omega) ?_
      simp only [↓awD, awP, Nat.reduceLeDiff, Nat.reduceEqDiff, Nat.reduceAdd, Nat.zero_add, Int.cast_ofNat_Int, Int.reduceLT, Int.reduceLE, Int.reduceEq]
      refine Fin.same0 hcl rfl ⟨?_, rfl⟩
      rw [e]
      simp only [str]
      congr 3
/-- A number's digits, the document's. -/
theorem digits_ev (n : Int) (h0 : -9223372036854775808 < n) (h1 : n ≤ 9223372036854775807) (h : List AObj) : EvR E0 50 [i64 n] h (str ⟨(Lib.itoa n).toArray⟩) := by
  by_cases hn : n < 0
  · refine ev_of (fn := Tryd.f50) (hs := []) Tryd.func50 c50 (by simp) fun hcl => ?_
    have n0 : decide (n < 0) = true := by rw [decide_eq_true_eq]; exact hn
    have hw : IntKind.i64.wrap (0 - n) = ((n.natAbs : Nat) : Int) := by rw [wrap_i64] <;> omega
    have hlen : (Lib.decDigits n.natAbs).length ≤ 21 := by
      have := Lib.itoa_length_le ((n.natAbs : Nat) : Int) (by omega) (by omega)
      unfold Lib.itoa at this
      rw [if_neg (by omega)] at this
      simpa using this
    have ea : (⟨#[45]⟩ : ByteArray) ++ ⟨(Lib.decDigits n.natAbs).toArray⟩ = ⟨(Lib.itoa n).toArray⟩ := by
      rw [show (⟨#[45]⟩ : ByteArray) = ⟨([45] : List UInt8).toArray⟩ from rfl, ba_append]
      unfold Lib.itoa
      rw [if_pos hn]; rfl
    simp only [ac50, n0, hw, ↓awD, awP, Nat.reduceLeDiff, Nat.reduceEqDiff, Nat.reduceAdd, Nat.zero_add, Int.cast_ofNat_Int, Int.reduceLT, Int.reduceLE, Int.reduceEq]
    refine EvF.ret (digits_nat _ n.natAbs (Nat.le_refl _) (by omega) h) ?_
    simp only [↓awD, awP, Nat.reduceLeDiff, Nat.reduceEqDiff, Nat.reduceAdd, Nat.zero_add, Int.cast_ofNat_Int, Int.reduceLT, Int.reduceLE, Int.reduceEq]
    refine Need.mk (by show 1 + (Lib.decDigits n.natAbs).length < 2 ^ 63; omega) ?_
    simp only [ea, ↓awD, awP, Nat.reduceLeDiff, Nat.reduceEqDiff, Nat.reduceAdd, Nat.zero_add, Int.cast_ofNat_Int, Int.reduceLT, Int.reduceLE, Int.reduceEq]
    exact Fin.same0 hcl rfl ⟨rfl, rfl⟩
  · obtain ⟨u, rfl⟩ : ∃ u : Nat, n = (u : Int) := ⟨n.toNat, by omega⟩
    have : Lib.itoa (u : Int) = Lib.decDigits u := by unfold Lib.itoa; rw [if_neg (by omega)]; simp
    rw [this]
    exact digits_nat u u (Nat.le_refl _) (by omega) h
end Go.Abs.Fr
