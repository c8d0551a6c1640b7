/- A number's digits. -/
import Derived.Test.YtenhfnadhmjloaaDoorT7L
set_option linter.all false
namespace Go.Abs.T7
open Go Go.Abs Go.Proofs
set_option linter.unusedSimpArgs false

/-- A number's digits; none of nought. -/
def digs : Nat → Nat → List UInt8
  | 0, _ => []
  | f + 1, m => if m = 0 then [] else digs f (m / 10) ++ [UInt8.ofNat (48 + m % 10)]

theorem digs_zero (f : Nat) : digs f 0 = [] := by cases f <;> simp [digs]

theorem ba_append (a b : List UInt8) : (⟨a.toArray⟩ : ByteArray) ++ ⟨b.toArray⟩ = ⟨(a ++ b).toArray⟩ := by
  apply ByteArray.ext
  simp [ByteArray.data_append]

theorem digs_len : ∀ (f m : Nat), (digs f m).length ≤ f
  | 0, _ => by simp [digs]
  | f + 1, m => by
    unfold digs
    split
    · simp
    · have := digs_len f (m / 10)
      simp; omega

def digits (n : Int) : List UInt8 := (if n < 0 then [45] else []) ++ (if n = 0 then [48] else digs 20 n.natAbs)

theorem digits_ev (n : Int) (h : List AObj) (h0 : -9223372036854775808 < n) (h1 : n ≤ 9223372036854775807) : EvR E0 13 [i64 n] h (.lit (.string ⟨(digits n).toArray⟩)) := by
  refine ev_of (fn := Tryd.f13) (hs := []) Tryd.func13 c13 (by simp) fun hcl => ?_
  simp only [ac13, ne_eq, not_false_eq_true, Option.map_some, Option.map_none, List.map_cons, List.map_nil, Bool.not_true, Bool.not_false, decide_true, decide_false, List.getElem?_cons_zero, List.getElem?_cons_succ, ↓aw1, ↓aw2, aw3, aw4, aw5, aw6, aw7, aw8, aw9, aw10, aw11, aw12, aw13, aw14, aw15, aw16, Nat.reduceLeDiff, if_true, if_false, Nat.reduceEqDiff, Nat.reduceAdd, beq_self_eq_true, beq_true, beq_false, Bool.false_eq_true]
  generalize hR : digs 20 n.natAbs = R
  refine LoopF.by (α := Nat × Int × List UInt8) (fun x => ⟨[(0, i64 x.2.1), (3, .lit (.string ⟨x.2.2.toArray⟩)), (4, boolv (decide (n < 0)))], h⟩) (fun x => x.1)
    (fun x => digs x.1 x.2.1.natAbs ++ x.2.2 = R ∧ x.2.1.natAbs < 10 ^ x.1 ∧ x.1 + x.2.2.length ≤ 20 ∧ (-9223372036854775808 < x.2.1 ∧ x.2.1 ≤ 9223372036854775807)) (20, n, [])
    ⟨by simpa using hR, by simp; omega, by simp, h0, h1⟩ (weak_of rfl (by simp [look])) ?_
  rintro ⟨f, m, out⟩ ⟨h2, h3, h4, h5, h6⟩
  simp only at h2 h3 h4 h5 h6
  by_cases hm : m = 0
  · subst hm
    have e1 : decide ((0 : Int) = 0) = true := rfl
    have hout : out = R := by rw [← h2, show Int.natAbs 0 = 0 from rfl, digs_zero]; rfl
    subst hout
    have hRn : out = [] ↔ n = 0 := by
      rw [← hR]
      constructor
      · intro he
        rw [show (20 : Nat) = 19 + 1 from rfl] at he
        unfold digs at he
        split at he
        · rename_i hz; omega
        · simp at he
      · rintro rfl; rfl
    have hemp : decide ((⟨out.toArray⟩ : ByteArray) = ⟨#[]⟩) = decide (n = 0) := by
      rw [show (⟨#[]⟩ : ByteArray) = ⟨([] : List UInt8).toArray⟩ from rfl, ba_eq, decide_eq_decide]; exact hRn
    by_cases hn0 : n = 0
    · have z0 : decide (n = 0) = true := by simp [hn0]
      have z1 : decide (n < 0) = false := by simp [hn0]
      simp only [e1, hemp, z0, z1, ne_eq, not_false_eq_true, Option.map_some, Option.map_none, List.map_cons, List.map_nil, Bool.not_true, Bool.not_false, decide_true, decide_false, List.getElem?_cons_zero, List.getElem?_cons_succ, ↓aw1, ↓aw2, aw3, aw4, aw5, aw6, aw7, aw8, aw9, aw10, aw11, aw12, aw13, aw14, aw15, aw16, Nat.reduceLeDiff, if_true, if_false, Nat.reduceEqDiff, Nat.reduceAdd, beq_self_eq_true, beq_true, beq_false, Bool.false_eq_true]
      exact Fin.same0 hcl rfl ⟨by rw [digits, if_neg (by omega), if_pos hn0]; rfl, rfl⟩
    · have z0 : decide (n = 0) = false := by simp [hn0]
      by_cases hneg : n < 0
      · have z1 : decide (n < 0) = true := by simp [hneg]
        simp only [e1, hemp, z0, z1, ne_eq, not_false_eq_true, Option.map_some, Option.map_none, List.map_cons, List.map_nil, Bool.not_true, Bool.not_false, decide_true, decide_false, List.getElem?_cons_zero, List.getElem?_cons_succ, ↓aw1, ↓aw2, aw3, aw4, aw5, aw6, aw7, aw8, aw9, aw10, aw11, aw12, aw13, aw14, aw15, aw16, Nat.reduceLeDiff, if_true, if_false, Nat.reduceEqDiff, Nat.reduceAdd, beq_self_eq_true, beq_true, beq_false, Bool.false_eq_true]
        refine Need.mk (by show (1 : Nat) + out.length < 2 ^ 63; have := digs_len 20 n.natAbs; rw [hR] at this; omega) ?_
        simp only [ne_eq, not_false_eq_true, Option.map_some, Option.map_none, List.map_cons, List.map_nil, Bool.not_true, Bool.not_false, decide_true, decide_false, List.getElem?_cons_zero, List.getElem?_cons_succ, ↓aw1, ↓aw2, aw3, aw4, aw5, aw6, aw7, aw8, aw9, aw10, aw11, aw12, aw13, aw14, aw15, aw16, Nat.reduceLeDiff, if_true, if_false, Nat.reduceEqDiff, Nat.reduceAdd, beq_self_eq_true, beq_true, beq_false, Bool.false_eq_true]
        refine Fin.same0 hcl rfl ⟨?_, rfl⟩
        rw [digits, if_pos hneg, if_neg hn0, hR, ← ba_append]
      · have z1 : decide (n < 0) = false := by simp; omega
        simp only [e1, hemp, z0, z1, ne_eq, not_false_eq_true, Option.map_some, Option.map_none, List.map_cons, List.map_nil, Bool.not_true, Bool.not_false, decide_true, decide_false, List.getElem?_cons_zero, List.getElem?_cons_succ, ↓aw1, ↓aw2, aw3, aw4, aw5, aw6, aw7, aw8, aw9, aw10, aw11, aw12, aw13, aw14, aw15, aw16, Nat.reduceLeDiff, if_true, if_false, Nat.reduceEqDiff, Nat.reduceAdd, beq_self_eq_true, beq_true, beq_false, Bool.false_eq_true]
        exact Fin.same0 hcl rfl ⟨by rw [digits, if_neg hneg, if_neg hn0, hR]; rfl, rfl⟩
  · have e1 : decide (m = 0) = false := by simp [hm]
    obtain ⟨f, rfl⟩ : ∃ f', f = f' + 1 := ⟨f - 1, by cases f <;> simp at h3 ⊢; omega⟩
    simp only [e1, ne_eq, not_false_eq_true, Option.map_some, Option.map_none, List.map_cons, List.map_nil, Bool.not_true, Bool.not_false, decide_true, decide_false, List.getElem?_cons_zero, List.getElem?_cons_succ, ↓aw1, ↓aw2, aw3, aw4, aw5, aw6, aw7, aw8, aw9, aw10, aw11, aw12, aw13, aw14, aw15, aw16, Nat.reduceLeDiff, if_true, if_false, Nat.reduceEqDiff, Nat.reduceAdd, beq_self_eq_true, beq_true, beq_false, Bool.false_eq_true]
    refine Need.mk (by decide) ?_
    simp only [ne_eq, not_false_eq_true, Option.map_some, Option.map_none, List.map_cons, List.map_nil, Bool.not_true, Bool.not_false, decide_true, decide_false, List.getElem?_cons_zero, List.getElem?_cons_succ, ↓aw1, ↓aw2, aw3, aw4, aw5, aw6, aw7, aw8, aw9, aw10, aw11, aw12, aw13, aw14, aw15, aw16, Nat.reduceLeDiff, if_true, if_false, Nat.reduceEqDiff, Nat.reduceAdd, beq_self_eq_true, beq_true, beq_false, Bool.false_eq_true]
    have hne : ¬ m.natAbs = 0 := by omega
    unfold digs at h2
    rw [if_neg hne, List.append_assoc] at h2
    have hnq : (m.tdiv 10).natAbs = m.natAbs / 10 := by rw [Int.natAbs_tdiv]; rfl
    have hlt : m.natAbs / 10 < 10 ^ f := by rw [Nat.pow_succ] at h3; omega
    have htm : (m.tmod 10).natAbs = m.natAbs % 10 := by rw [Int.natAbs_tmod]; rfl
    have hd : m.natAbs % 10 < 10 := Nat.mod_lt _ (by decide)
    have hq1 : -9223372036854775808 < m.tdiv 10 ∧ m.tdiv 10 ≤ 9223372036854775807 := by omega
    have hquo : IntKind.i64.wrap (m.tdiv 10) = m.tdiv 10 := wrap_i64 _ (by omega) (by omega)
    have hb1 : IntKind.u8.wrap ((m.natAbs % 10 : Nat) : Int) = ((m.natAbs % 10 : Nat) : Int) := by
      simp [IntKind.wrap, IntKind.signed, IntKind.bits]; omega
    have hb2 : IntKind.u8.wrap (48 + ((m.natAbs % 10 : Nat) : Int)) = 48 + ((m.natAbs % 10 : Nat) : Int) := by
      simp [IntKind.wrap, IntKind.signed, IntKind.bits]; omega
    have hbites : bitesOf [.lit (.int .u8 (48 + ((m.natAbs % 10 : Nat) : Int)))] = some [UInt8.ofNat (48 + m.natAbs % 10)] := by
      have : (48 + ((m.natAbs % 10 : Nat) : Int)).toNat = 48 + m.natAbs % 10 := by omega
      simp only [bitesOf, this, Option.map_some]
    have hcat : (⟨[UInt8.ofNat (48 + m.natAbs % 10)].toArray⟩ : ByteArray) ++ ⟨out.toArray⟩ = ⟨(UInt8.ofNat (48 + m.natAbs % 10) :: out).toArray⟩ := ba_append _ _
    rw [← hnq] at h2
    rw [List.singleton_append] at h2
    by_cases hneg : m.tmod 10 < 0
    · have z1 : decide (m.tmod 10 < 0) = true := by simpa using hneg
      have hr : IntKind.i64.wrap (0 - m.tmod 10) = ((m.natAbs % 10 : Nat) : Int) := by
        rw [wrap_i64 _ (by omega) (by omega)]
        omega
      simp only [z1, hr, hb1, hb2, ne_eq, not_false_eq_true, Option.map_some, Option.map_none, List.map_cons, List.map_nil, Bool.not_true, Bool.not_false, decide_true, decide_false, List.getElem?_cons_zero, List.getElem?_cons_succ, ↓aw1, ↓aw2, aw3, aw4, aw5, aw6, aw7, aw8, aw9, aw10, aw11, aw12, aw13, aw14, aw15, aw16, Nat.reduceLeDiff, if_true, if_false, Nat.reduceEqDiff, Nat.reduceAdd, beq_self_eq_true, beq_true, beq_false, Bool.false_eq_true]
      refine Need.mk ⟨rfl, by decide, by decide, fun p hp => by simp only [List.mem_singleton] at hp; subst hp; exact ⟨rfl, rfl, rfl⟩⟩ ?_
      simp only [hbites, ne_eq, not_false_eq_true, Option.map_some, Option.map_none, List.map_cons, List.map_nil, Bool.not_true, Bool.not_false, decide_true, decide_false, List.getElem?_cons_zero, List.getElem?_cons_succ, ↓aw1, ↓aw2, aw3, aw4, aw5, aw6, aw7, aw8, aw9, aw10, aw11, aw12, aw13, aw14, aw15, aw16, Nat.reduceLeDiff, if_true, if_false, Nat.reduceEqDiff, Nat.reduceAdd, beq_self_eq_true, beq_true, beq_false, Bool.false_eq_true]
      refine Need.mk (by show (1 : Nat) + out.length < 2 ^ 63; omega) ?_
      simp only [hcat, ne_eq, not_false_eq_true, Option.map_some, Option.map_none, List.map_cons, List.map_nil, Bool.not_true, Bool.not_false, decide_true, decide_false, List.getElem?_cons_zero, List.getElem?_cons_succ, ↓aw1, ↓aw2, aw3, aw4, aw5, aw6, aw7, aw8, aw9, aw10, aw11, aw12, aw13, aw14, aw15, aw16, Nat.reduceLeDiff, if_true, if_false, Nat.reduceEqDiff, Nat.reduceAdd, beq_self_eq_true, beq_true, beq_false, Bool.false_eq_true]
      refine Need.mk (by decide) ?_
      simp only [hquo, ne_eq, not_false_eq_true, Option.map_some, Option.map_none, List.map_cons, List.map_nil, Bool.not_true, Bool.not_false, decide_true, decide_false, List.getElem?_cons_zero, List.getElem?_cons_succ, ↓aw1, ↓aw2, aw3, aw4, aw5, aw6, aw7, aw8, aw9, aw10, aw11, aw12, aw13, aw14, aw15, aw16, Nat.reduceLeDiff, if_true, if_false, Nat.reduceEqDiff, Nat.reduceAdd, beq_self_eq_true, beq_true, beq_false, Bool.false_eq_true]
      exact ⟨(f, m.tdiv 10, UInt8.ofNat (48 + m.natAbs % 10) :: out), ⟨h2, by rw [hnq]; exact hlt, by simp; omega, hq1.1, hq1.2⟩, by simp, weak_of rfl (by simp [look])⟩
    · have z1 : decide (m.tmod 10 < 0) = false := by simp; omega
      have hr : m.tmod 10 = ((m.natAbs % 10 : Nat) : Int) := by omega
      have z2 : decide (((m.natAbs % 10 : Nat) : Int) < 0) = false := by simp; omega
      simp only [hr, z2, hb1, hb2, ne_eq, not_false_eq_true, Option.map_some, Option.map_none, List.map_cons, List.map_nil, Bool.not_true, Bool.not_false, decide_true, decide_false, List.getElem?_cons_zero, List.getElem?_cons_succ, ↓aw1, ↓aw2, aw3, aw4, aw5, aw6, aw7, aw8, aw9, aw10, aw11, aw12, aw13, aw14, aw15, aw16, Nat.reduceLeDiff, if_true, if_false, Nat.reduceEqDiff, Nat.reduceAdd, beq_self_eq_true, beq_true, beq_false, Bool.false_eq_true]
      refine Need.mk ⟨rfl, by decide, by decide, fun p hp => by simp only [List.mem_singleton] at hp; subst hp; exact ⟨rfl, rfl, rfl⟩⟩ ?_
      simp only [hbites, ne_eq, not_false_eq_true, Option.map_some, Option.map_none, List.map_cons, List.map_nil, Bool.not_true, Bool.not_false, decide_true, decide_false, List.getElem?_cons_zero, List.getElem?_cons_succ, ↓aw1, ↓aw2, aw3, aw4, aw5, aw6, aw7, aw8, aw9, aw10, aw11, aw12, aw13, aw14, aw15, aw16, Nat.reduceLeDiff, if_true, if_false, Nat.reduceEqDiff, Nat.reduceAdd, beq_self_eq_true, beq_true, beq_false, Bool.false_eq_true]
      refine Need.mk (by show (1 : Nat) + out.length < 2 ^ 63; omega) ?_
      simp only [hcat, ne_eq, not_false_eq_true, Option.map_some, Option.map_none, List.map_cons, List.map_nil, Bool.not_true, Bool.not_false, decide_true, decide_false, List.getElem?_cons_zero, List.getElem?_cons_succ, ↓aw1, ↓aw2, aw3, aw4, aw5, aw6, aw7, aw8, aw9, aw10, aw11, aw12, aw13, aw14, aw15, aw16, Nat.reduceLeDiff, if_true, if_false, Nat.reduceEqDiff, Nat.reduceAdd, beq_self_eq_true, beq_true, beq_false, Bool.false_eq_true]
      refine Need.mk (by decide) ?_
      simp only [hquo, ne_eq, not_false_eq_true, Option.map_some, Option.map_none, List.map_cons, List.map_nil, Bool.not_true, Bool.not_false, decide_true, decide_false, List.getElem?_cons_zero, List.getElem?_cons_succ, ↓aw1, ↓aw2, aw3, aw4, aw5, aw6, aw7, aw8, aw9, aw10, aw11, aw12, aw13, aw14, aw15, aw16, Nat.reduceLeDiff, if_true, if_false, Nat.reduceEqDiff, Nat.reduceAdd, beq_self_eq_true, beq_true, beq_false, Bool.false_eq_true]
      exact ⟨(f, m.tdiv 10, UInt8.ofNat (48 + m.natAbs % 10) :: out), ⟨h2, by rw [hnq]; exact hlt, by simp; omega, hq1.1, hq1.2⟩, by simp, weak_of rfl (by simp [look])⟩
end Go.Abs.T7
