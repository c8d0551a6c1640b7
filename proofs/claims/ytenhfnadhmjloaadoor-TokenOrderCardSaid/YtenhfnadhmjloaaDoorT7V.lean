/- TokenOrder: the law's function answers true. -/
import Derived.Test.YtenhfnadhmjloaaDoorT7U
set_option linter.all false
namespace Go.Abs.T7
open Go Go.Abs Go.Proofs
set_option linter.unusedSimpArgs false

theorem Elem.need {es : List AV} {n : Nat} {P K : AV → Prop} {t' : ∀ e, Tag (K e)} {t : Tag fun e => Need (P e) (K e) (t' e)} {a : AV} (h : es[n]? = some a) (hp : P a) (hk : K a) : Elem es n (fun e => Need (P e) (K e) (t' e)) t := fun e he => by
  have := Option.some.inj (h.symm.trans he)
  subst this
  exact ⟨hp, hk⟩

set_option maxHeartbeats 4000000 in
set_option maxRecDepth 20000 in
theorem order_ev (b : List UInt8) (h : List AObj) : EvR E0 4 [.sl .unk (byA b)] h (boolv true) := by
  refine ev_of (fn := Tryd.f4) (hs := []) Tryd.func4 c4 (by simp) fun hcl => ?_
  have lb : (byA b).length = b.length := by simp
  simp only [ac4, lb, ne_eq, not_false_eq_true, Option.map_some, Option.map_none, List.map_cons, List.map_nil, Bool.not_true, Bool.not_false, decide_true, decide_false, List.getElem?_cons_zero, List.getElem?_cons_succ, ↓aw1, ↓aw2, ↓aw17, aw3, aw4, aw5, aw6, aw7, aw8, aw9, aw10, aw11, aw12, aw13, aw14, aw15, aw16, Nat.reduceLeDiff, if_true, if_false, Nat.reduceEqDiff, Nat.reduceAdd, beq_self_eq_true, beq_true, beq_false, Bool.false_eq_true]
  refine EvF.ret (awake_ev h) ?_
  simp only [lb, ne_eq, not_false_eq_true, Option.map_some, Option.map_none, List.map_cons, List.map_nil, Bool.not_true, Bool.not_false, decide_true, decide_false, List.getElem?_cons_zero, List.getElem?_cons_succ, ↓aw1, ↓aw2, ↓aw17, aw3, aw4, aw5, aw6, aw7, aw8, aw9, aw10, aw11, aw12, aw13, aw14, aw15, aw16, Nat.reduceLeDiff, if_true, if_false, Nat.reduceEqDiff, Nat.reduceAdd, beq_self_eq_true, beq_true, beq_false, Bool.false_eq_true]
  by_cases hs : 3000 < b.length
  · have e0 : decide ((3000 : Int) < (b.length : Int)) = true := by simp; omega
    simp only [e0, ne_eq, not_false_eq_true, Option.map_some, Option.map_none, List.map_cons, List.map_nil, Bool.not_true, Bool.not_false, decide_true, decide_false, List.getElem?_cons_zero, List.getElem?_cons_succ, ↓aw1, ↓aw2, ↓aw17, aw3, aw4, aw5, aw6, aw7, aw8, aw9, aw10, aw11, aw12, aw13, aw14, aw15, aw16, Nat.reduceLeDiff, if_true, if_false, Nat.reduceEqDiff, Nat.reduceAdd, beq_self_eq_true, beq_true, beq_false, Bool.false_eq_true]
    exact Fin.same0 hcl rfl ⟨rfl, rfl⟩
  have e0 : decide ((3000 : Int) < (b.length : Int)) = false := by simp; omega
  simp only [e0, lb, ne_eq, not_false_eq_true, Option.map_some, Option.map_none, List.map_cons, List.map_nil, Bool.not_true, Bool.not_false, decide_true, decide_false, List.getElem?_cons_zero, List.getElem?_cons_succ, ↓aw1, ↓aw2, ↓aw17, aw3, aw4, aw5, aw6, aw7, aw8, aw9, aw10, aw11, aw12, aw13, aw14, aw15, aw16, Nat.reduceLeDiff, if_true, if_false, Nat.reduceEqDiff, Nat.reduceAdd, beq_self_eq_true, beq_true, beq_false, Bool.false_eq_true]
  refine EvF.use (scan_ev b (by omega)) ?_
  rintro r h' ⟨⟨c, hc, rfl⟩, rfl⟩
  have hO := scan_ord b (by omega)
  have hE := scan_err b (by omega)
  generalize hS : scan b = S at hO hE
  obtain ⟨toks, n, e⟩ := S
  simp only at hO hE
  have hstrip : AV.strip (.sl c (toks.map tokv)) = .sl c (toks.map tokv) := by rcases hc with rfl | rfl <;> rfl
  by_cases he : e = 0
  · subst he
    obtain ⟨o1, o2⟩ := hO rfl
    subst o2
    have z0 : decide (((0 : Nat) : Int) = 0) = true := rfl
    simp only [hstrip, z0, lb, ne_eq, not_false_eq_true, Option.map_some, Option.map_none, List.map_cons, List.map_nil, Bool.not_true, Bool.not_false, decide_true, decide_false, List.getElem?_cons_zero, List.getElem?_cons_succ, ↓aw1, ↓aw2, ↓aw17, aw3, aw4, aw5, aw6, aw7, aw8, aw9, aw10, aw11, aw12, aw13, aw14, aw15, aw16, Nat.reduceLeDiff, if_true, if_false, Nat.reduceEqDiff, Nat.reduceAdd, beq_self_eq_true, beq_true, beq_false, Bool.false_eq_true]
    refine LoopF.by (α := Nat × Nat) (fun x => ⟨[(0, .sl .unk (byA b)), (3, boolv true), (4, .sl c (toks.map tokv)), (5, i64 b.length), (7, i64 x.2), (8, i64 x.1)], h'⟩) (fun x => toks.length - x.1)
      (fun x => x.1 ≤ toks.length ∧ Ord b x.2 (toks.drop x.1) ∧ x.1 ≤ x.2) (0, 0) ⟨by omega, o1, by omega⟩ (weak_of rfl (by simp [look])) ?_
    rintro ⟨i, last⟩ ⟨h1, h2, h3⟩
    simp only at h1 h2 h3
    by_cases hi : i < toks.length
    · have e1 : decide ((i : Int) < ((toks.map tokv).length : Int)) = true := by simp; omega
      obtain ⟨t, ht⟩ : ∃ t, toks[i]? = some t := ⟨_, List.getElem?_eq_getElem hi⟩
      have hget : (toks.map tokv)[i]? = some (tokv t) := by rw [List.getElem?_map, ht]; rfl
      rw [List.drop_eq_getElem_cons hi, ← Option.some.inj ((List.getElem?_eq_getElem hi).symm.trans ht).symm] at h2
      obtain ⟨q1, q2, ⟨q3, q3'⟩, q4, q5, q6⟩ := h2
      have hget' : (toks.map tokv)[(i : Int).toNat]? = some (tokv t) := hget
      have need : ((0 : Int) ≤ (i : Int) ∧ (i : Int) < ((toks.map tokv).length : Int)) := ⟨by omega, by simp; omega⟩
      have b0 : decide ((t.place : Int) < (last : Int)) = false := by simp; omega
      have b1 : decide ((b.length : Int) ≤ (t.place : Int)) = false := by simp; omega
      have b2 : decide ((t.kind : Int) < 1) = false := by simp; omega
      have b3 : decide ((4 : Int) < (t.kind : Int)) = false := by simp; omega
      simp only [hstrip, e1, lb, ne_eq, not_false_eq_true, Option.map_some, Option.map_none, List.map_cons, List.map_nil, Bool.not_true, Bool.not_false, decide_true, decide_false, List.getElem?_cons_zero, List.getElem?_cons_succ, ↓aw1, ↓aw2, ↓aw17, aw3, aw4, aw5, aw6, aw7, aw8, aw9, aw10, aw11, aw12, aw13, aw14, aw15, aw16, Nat.reduceLeDiff, if_true, if_false, Nat.reduceEqDiff, Nat.reduceAdd, beq_self_eq_true, beq_true, beq_false, Bool.false_eq_true]
      repeat (refine Need.mk need fun e he => ?_
              obtain rfl := Option.some.inj (hget.symm.trans he)
              refine Need.mk ⟨rfl, rfl⟩ ?_
              simp only [tokv, List.drop_zero, List.drop_succ_cons, hstrip, e1, lb, b0, b1, b2, b3, ne_eq, not_false_eq_true, Option.map_some, Option.map_none, List.map_cons, List.map_nil, Bool.not_true, Bool.not_false, decide_true, decide_false, List.getElem?_cons_zero, List.getElem?_cons_succ, ↓aw1, ↓aw2, ↓aw17, aw3, aw4, aw5, aw6, aw7, aw8, aw9, aw10, aw11, aw12, aw13, aw14, aw15, aw16, Nat.reduceLeDiff, if_true, if_false, Nat.reduceEqDiff, Nat.reduceAdd, beq_self_eq_true, beq_true, beq_false, Bool.false_eq_true])
      have hsz : (⟨t.text.toArray⟩ : ByteArray).size = t.text.length := by simp [ByteArray.size]
      have hlast : IntKind.i64.wrap ((t.place : Int) + ((max t.text.length 1 : Nat) : Int)) = ((t.place + max t.text.length 1 : Nat) : Int) := by rw [wrap_i64] <;> omega
      have hi1 : IntKind.i64.wrap ((i : Int) + 1) = ((i + 1 : Nat) : Int) := by rw [wrap_i64] <;> omega
      have b4 : (if (t.text.length : Int) < 1 then (1 : Int) else (t.text.length : Int)) = ((max t.text.length 1 : Nat) : Int) := by split <;> omega
      have b5 : (if (1 : Int) > (t.text.length : Int) then (1 : Int) else (t.text.length : Int)) = ((max t.text.length 1 : Nat) : Int) := by split <;> omega
      by_cases hk1 : t.kind = 1
      · have c1 : decide ((t.kind : Int) = 1) = true := by simp; omega
        obtain ⟨p1, p2, p3⟩ := q4 (.inl hk1)
        have c2 : decide ((t.text.length : Int) < 1) = false := by simp; omega
        have c3 : decide (IntKind.i64.wrap ((b.length : Int) - (t.place : Int)) < (t.text.length : Int)) = false := by rw [wrap_i64 _ (by omega) (by omega)]; simp; omega
        have c4 : IntKind.i64.wrap ((t.place : Int) + (t.text.length : Int)) = ((t.place + t.text.length : Nat) : Int) := by rw [wrap_i64] <;> omega
        have c5 : List.drop (t.place : Int).toNat (List.take ((t.place + t.text.length : Nat) : Int).toNat (byA b)) = byA t.text := by
          simp only [Int.toNat_natCast, byA_take, byA_drop]
          rw [List.drop_take, show t.place + t.text.length - t.place = t.text.length by omega, p3]
        have c6 := bitesOf_byA t.text
        simp only [tokv, List.drop_zero, List.drop_succ_cons, hsz, hstrip, e1, lb, b0, b1, b2, b3, c1, c2, c3, c4, c5, b4, b5, hlast, hi1, ne_eq, not_false_eq_true, Option.map_some, Option.map_none, List.map_cons, List.map_nil, Bool.not_true, Bool.not_false, decide_true, decide_false, List.getElem?_cons_zero, List.getElem?_cons_succ, ↓aw1, ↓aw2, ↓aw17, aw3, aw4, aw5, aw6, aw7, aw8, aw9, aw10, aw11, aw12, aw13, aw14, aw15, aw16, Nat.reduceLeDiff, if_true, if_false, Nat.reduceEqDiff, Nat.reduceAdd, beq_self_eq_true, beq_true, beq_false, Bool.false_eq_true]
        repeat (refine Need.mk need (Elem.need hget' ⟨rfl, rfl⟩ ?_)
                simp only [tokv, List.drop_zero, List.drop_succ_cons, hsz, hstrip, e1, lb, b0, b1, b2, b3, c1, c2, c3, c4, c5, b4, b5, hlast, hi1, ne_eq, not_false_eq_true, Option.map_some, Option.map_none, List.map_cons, List.map_nil, Bool.not_true, Bool.not_false, decide_true, decide_false, List.getElem?_cons_zero, List.getElem?_cons_succ, ↓aw1, ↓aw2, ↓aw17, aw3, aw4, aw5, aw6, aw7, aw8, aw9, aw10, aw11, aw12, aw13, aw14, aw15, aw16, Nat.reduceLeDiff, if_true, if_false, Nat.reduceEqDiff, Nat.reduceAdd, beq_self_eq_true, beq_true, beq_false, Bool.false_eq_true])
        refine Need.mk ⟨by omega, by omega, by omega, .inr (byA_fit b)⟩ ?_
        simp only [tokv, List.drop_zero, List.drop_succ_cons, hsz, hstrip, e1, lb, b0, b1, b2, b3, c1, c2, c3, c4, c5, c6, b4, b5, hlast, hi1, ne_eq, not_false_eq_true, Option.map_some, Option.map_none, List.map_cons, List.map_nil, Bool.not_true, Bool.not_false, decide_true, decide_false, List.getElem?_cons_zero, List.getElem?_cons_succ, ↓aw1, ↓aw2, ↓aw17, aw3, aw4, aw5, aw6, aw7, aw8, aw9, aw10, aw11, aw12, aw13, aw14, aw15, aw16, Nat.reduceLeDiff, if_true, if_false, Nat.reduceEqDiff, Nat.reduceAdd, beq_self_eq_true, beq_true, beq_false, Bool.false_eq_true]
        repeat (refine Need.mk need (Elem.need hget' ⟨rfl, rfl⟩ ?_)
                simp only [tokv, List.drop_zero, List.drop_succ_cons, hsz, hstrip, e1, lb, b0, b1, b2, b3, c1, c2, c3, c4, c5, c6, b4, b5, hlast, hi1, ne_eq, not_false_eq_true, Option.map_some, Option.map_none, List.map_cons, List.map_nil, Bool.not_true, Bool.not_false, decide_true, decide_false, List.getElem?_cons_zero, List.getElem?_cons_succ, ↓aw1, ↓aw2, ↓aw17, aw3, aw4, aw5, aw6, aw7, aw8, aw9, aw10, aw11, aw12, aw13, aw14, aw15, aw16, Nat.reduceLeDiff, if_true, if_false, Nat.reduceEqDiff, Nat.reduceAdd, beq_self_eq_true, beq_true, beq_false, Bool.false_eq_true])
        exact ⟨(i + 1, t.place + max t.text.length 1), ⟨by simp only; omega, q6, by simp only; omega⟩, by simp only; omega, weak_of rfl (by simp [look])⟩
      · have c1 : decide ((t.kind : Int) = 1) = false := by simp; omega
        by_cases hk3 : t.kind = 3
        · have c7 : decide ((t.kind : Int) = 3) = true := by simp; omega
          obtain ⟨p1, p2, p3⟩ := q4 (.inr hk3)
          have c2 : decide ((t.text.length : Int) < 1) = false := by simp; omega
          have c3 : decide (IntKind.i64.wrap ((b.length : Int) - (t.place : Int)) < (t.text.length : Int)) = false := by rw [wrap_i64 _ (by omega) (by omega)]; simp; omega
          have c4 : IntKind.i64.wrap ((t.place : Int) + (t.text.length : Int)) = ((t.place + t.text.length : Nat) : Int) := by rw [wrap_i64] <;> omega
          have c5 : List.drop (t.place : Int).toNat (List.take ((t.place + t.text.length : Nat) : Int).toNat (byA b)) = byA t.text := by
            simp only [Int.toNat_natCast, byA_take, byA_drop]
            rw [List.drop_take, show t.place + t.text.length - t.place = t.text.length by omega, p3]
          have c6 := bitesOf_byA t.text
          simp only [tokv, List.drop_zero, List.drop_succ_cons, hsz, hstrip, e1, lb, b0, b1, b2, b3, c1, c7, c2, c3, c4, c5, b4, b5, hlast, hi1, ne_eq, not_false_eq_true, Option.map_some, Option.map_none, List.map_cons, List.map_nil, Bool.not_true, Bool.not_false, decide_true, decide_false, List.getElem?_cons_zero, List.getElem?_cons_succ, ↓aw1, ↓aw2, ↓aw17, aw3, aw4, aw5, aw6, aw7, aw8, aw9, aw10, aw11, aw12, aw13, aw14, aw15, aw16, Nat.reduceLeDiff, if_true, if_false, Nat.reduceEqDiff, Nat.reduceAdd, beq_self_eq_true, beq_true, beq_false, Bool.false_eq_true]
          repeat (refine Need.mk need (Elem.need hget' ⟨rfl, rfl⟩ ?_)
                  simp only [tokv, List.drop_zero, List.drop_succ_cons, hsz, hstrip, e1, lb, b0, b1, b2, b3, c1, c7, c2, c3, c4, c5, b4, b5, hlast, hi1, ne_eq, not_false_eq_true, Option.map_some, Option.map_none, List.map_cons, List.map_nil, Bool.not_true, Bool.not_false, decide_true, decide_false, List.getElem?_cons_zero, List.getElem?_cons_succ, ↓aw1, ↓aw2, ↓aw17, aw3, aw4, aw5, aw6, aw7, aw8, aw9, aw10, aw11, aw12, aw13, aw14, aw15, aw16, Nat.reduceLeDiff, if_true, if_false, Nat.reduceEqDiff, Nat.reduceAdd, beq_self_eq_true, beq_true, beq_false, Bool.false_eq_true])
          refine Need.mk ⟨by omega, by omega, by omega, .inr (byA_fit b)⟩ ?_
          simp only [tokv, List.drop_zero, List.drop_succ_cons, hsz, hstrip, e1, lb, b0, b1, b2, b3, c1, c7, c2, c3, c4, c5, c6, b4, b5, hlast, hi1, ne_eq, not_false_eq_true, Option.map_some, Option.map_none, List.map_cons, List.map_nil, Bool.not_true, Bool.not_false, decide_true, decide_false, List.getElem?_cons_zero, List.getElem?_cons_succ, ↓aw1, ↓aw2, ↓aw17, aw3, aw4, aw5, aw6, aw7, aw8, aw9, aw10, aw11, aw12, aw13, aw14, aw15, aw16, Nat.reduceLeDiff, if_true, if_false, Nat.reduceEqDiff, Nat.reduceAdd, beq_self_eq_true, beq_true, beq_false, Bool.false_eq_true]
          repeat (refine Need.mk need (Elem.need hget' ⟨rfl, rfl⟩ ?_)
                  simp only [tokv, List.drop_zero, List.drop_succ_cons, hsz, hstrip, e1, lb, b0, b1, b2, b3, c1, c7, c2, c3, c4, c5, c6, b4, b5, hlast, hi1, ne_eq, not_false_eq_true, Option.map_some, Option.map_none, List.map_cons, List.map_nil, Bool.not_true, Bool.not_false, decide_true, decide_false, List.getElem?_cons_zero, List.getElem?_cons_succ, ↓aw1, ↓aw2, ↓aw17, aw3, aw4, aw5, aw6, aw7, aw8, aw9, aw10, aw11, aw12, aw13, aw14, aw15, aw16, Nat.reduceLeDiff, if_true, if_false, Nat.reduceEqDiff, Nat.reduceAdd, beq_self_eq_true, beq_true, beq_false, Bool.false_eq_true])
          exact ⟨(i + 1, t.place + max t.text.length 1), ⟨by simp only; omega, q6, by simp only; omega⟩, by simp only; omega, weak_of rfl (by simp [look])⟩
        · have c7 : decide ((t.kind : Int) = 3) = false := by simp; omega
          simp only [tokv, List.drop_zero, List.drop_succ_cons, hsz, hstrip, e1, lb, b0, b1, b2, b3, c1, c7, b4, b5, hlast, hi1, ne_eq, not_false_eq_true, Option.map_some, Option.map_none, List.map_cons, List.map_nil, Bool.not_true, Bool.not_false, decide_true, decide_false, List.getElem?_cons_zero, List.getElem?_cons_succ, ↓aw1, ↓aw2, ↓aw17, aw3, aw4, aw5, aw6, aw7, aw8, aw9, aw10, aw11, aw12, aw13, aw14, aw15, aw16, Nat.reduceLeDiff, if_true, if_false, Nat.reduceEqDiff, Nat.reduceAdd, beq_self_eq_true, beq_true, beq_false, Bool.false_eq_true]
          repeat (refine Need.mk need (Elem.need hget' ⟨rfl, rfl⟩ ?_)
                  simp only [tokv, List.drop_zero, List.drop_succ_cons, hsz, hstrip, e1, lb, b0, b1, b2, b3, c1, c7, b4, b5, hlast, hi1, ne_eq, not_false_eq_true, Option.map_some, Option.map_none, List.map_cons, List.map_nil, Bool.not_true, Bool.not_false, decide_true, decide_false, List.getElem?_cons_zero, List.getElem?_cons_succ, ↓aw1, ↓aw2, ↓aw17, aw3, aw4, aw5, aw6, aw7, aw8, aw9, aw10, aw11, aw12, aw13, aw14, aw15, aw16, Nat.reduceLeDiff, if_true, if_false, Nat.reduceEqDiff, Nat.reduceAdd, beq_self_eq_true, beq_true, beq_false, Bool.false_eq_true])
          exact ⟨(i + 1, t.place + max t.text.length 1), ⟨by simp only; omega, q6, by simp only; omega⟩, by simp only; omega, weak_of rfl (by simp [look])⟩
    · have e1 : decide ((i : Int) < ((toks.map tokv).length : Int)) = false := by simp; omega
      simp only [hstrip, e1, lb, decide_true, eq_self, ne_eq, not_false_eq_true, Option.map_some, Option.map_none, List.map_cons, List.map_nil, Bool.not_true, Bool.not_false, decide_true, decide_false, List.getElem?_cons_zero, List.getElem?_cons_succ, ↓aw1, ↓aw2, ↓aw17, aw3, aw4, aw5, aw6, aw7, aw8, aw9, aw10, aw11, aw12, aw13, aw14, aw15, aw16, Nat.reduceLeDiff, if_true, if_false, Nat.reduceEqDiff, Nat.reduceAdd, beq_self_eq_true, beq_true, beq_false, Bool.false_eq_true]
      trace_state
      exact Fin.same0 hcl rfl ⟨rfl, rfl⟩
  · have z0 : decide ((e : Int) = 0) = false := by simp; omega
    obtain ⟨o1, o2⟩ := hE he
    subst o1
    have z1 : decide (((0 : Nat) : Int) = 0) = true := rfl
    have z2 : decide ((0 : Int) ≤ (n : Int)) = true := by simp
    have z3 : decide ((n : Int) < (b.length : Int)) = true := by simp; omega
    simp only [hstrip, z0, z1, z2, z3, lb, ne_eq, not_false_eq_true, Option.map_some, Option.map_none, List.map_cons, List.map_nil, Bool.not_true, Bool.not_false, decide_true, decide_false, List.getElem?_cons_zero, List.getElem?_cons_succ, ↓aw1, ↓aw2, ↓aw17, aw3, aw4, aw5, aw6, aw7, aw8, aw9, aw10, aw11, aw12, aw13, aw14, aw15, aw16, Nat.reduceLeDiff, if_true, if_false, Nat.reduceEqDiff, Nat.reduceAdd, beq_self_eq_true, beq_true, beq_false, Bool.false_eq_true]
    rcases hc with rfl | rfl
    all_goals
      simp only [hstrip, z0, z1, z2, z3, lb, List.map_nil, List.length_nil, ne_eq, not_false_eq_true, Option.map_some, Option.map_none, List.map_cons, List.map_nil, Bool.not_true, Bool.not_false, decide_true, decide_false, List.getElem?_cons_zero, List.getElem?_cons_succ, ↓aw1, ↓aw2, ↓aw17, aw3, aw4, aw5, aw6, aw7, aw8, aw9, aw10, aw11, aw12, aw13, aw14, aw15, aw16, Nat.reduceLeDiff, if_true, if_false, Nat.reduceEqDiff, Nat.reduceAdd, beq_self_eq_true, beq_true, beq_false, Bool.false_eq_true]
      exact Fin.same0 hcl rfl ⟨rfl, rfl⟩
end Go.Abs.T7
