/- Whether a fragment is shaped: the document's answer is the same. -/
import Derived.Test.YtgbedffflggenaaDoorS18FrN
set_option linter.all false
namespace Go.Abs.Fr
open Go Go.Abs Go.Proofs
set_option linter.unusedSimpArgs false
set_option maxRecDepth 100000

set_option maxHeartbeats 1000000 in
theorem rargs_ev (l : List Arg) (hl : l.length < 2 ^ 60) (h : List AObj) : EvR E0 44 [argsv l] h (boolv (decide (l.length ≤ 4096) && !l.any fun a => !okArg a)) := by
  refine ev_of (fn := Tryd.f44) (hs := []) Tryd.func44 c44 (by simp) fun hcl => ?_
  generalize hR : (!l.any fun a => !okArg a) = R
  have d0 : decide ((l.length : Int) ≤ 4096) = decide (l.length ≤ 4096) := by rw [decide_eq_decide]; omega
  simp only [ac44, List.length_map, ne_eq, not_false_eq_true, Option.map_some, Option.map_none, List.map_cons, List.map_nil, Bool.not_true, Bool.not_false, decide_true, decide_false, List.getElem?_cons_zero, List.getElem?_cons_succ, ↓aw1, ↓aw2, ↓aw17, aw3, aw4, aw5, aw6, aw7, aw8, aw9, aw10, aw11, aw12, aw13, aw14, aw15, aw16, aw19, Nat.reduceLeDiff, if_true, if_false, Nat.reduceEqDiff, Nat.reduceAdd, beq_self_eq_true, beq_true, beq_false, Bool.false_eq_true]
  refine LoopF.by (α := Nat) (fun i => ⟨[(0, argsv l), (3, i64 i)], h⟩) (fun i => l.length - i)
    (fun i => i ≤ l.length ∧ (!(l.drop i).any fun a => !okArg a) = R) 0 ⟨by omega, by simpa using hR⟩ (weak_of rfl (by simp [look])) ?_
  rintro i ⟨h1, h2⟩
  by_cases hi : i < l.length
  · obtain ⟨s, hs⟩ : ∃ s, l[i]? = some s := ⟨_, List.getElem?_eq_getElem hi⟩
    have e1 : decide ((i : Int) < (l.length : Int)) = true := by simp; omega
    have w3 : IntKind.i64.wrap ((i : Int) + 1) = ((i + 1 : Nat) : Int) := by rw [wrap_i64] <;> omega
    rw [drop_get hs, List.any_cons] at h2
    have hg : (l.map argv)[(i : Int).toNat]? = some (argv s) := map_get argv l i s hs
    obtain ⟨t, n, x, hn⟩ := s
    cases t <;> cases n0 : decide (n = 0) <;> cases x0 : decide (x = ⟨#[]⟩) <;> cases nm : decide (n = -9223372036854775808)
    all_goals
      simp only [okArg, n0, x0, nm, if_true, if_false, Bool.false_eq_true, Bool.not_true, Bool.not_false, Bool.true_and, Bool.false_and, Bool.and_true, Bool.true_or, Bool.false_or] at h2
      simp only [e1, List.length_map, ne_eq, not_false_eq_true, Option.map_some, Option.map_none, List.map_cons, List.map_nil, Bool.not_true, Bool.not_false, decide_true, decide_false, List.getElem?_cons_zero, List.getElem?_cons_succ, ↓aw1, ↓aw2, ↓aw17, aw3, aw4, aw5, aw6, aw7, aw8, aw9, aw10, aw11, aw12, aw13, aw14, aw15, aw16, aw19, Nat.reduceLeDiff, if_true, if_false, Nat.reduceEqDiff, Nat.reduceAdd, beq_self_eq_true, beq_true, beq_false, Bool.false_eq_true]
      repeat (refine Need.mk ⟨by omega, by first | omega | (simp; omega)⟩ (Elem.recs hg ⟨rfl, rfl⟩ ?_)
              simp only [argv, n0, x0, nm, w3, List.length_map, List.drop_zero, List.drop_succ_cons, ne_eq, not_false_eq_true, Option.map_some, Option.map_none, List.map_cons, List.map_nil, Bool.not_true, Bool.not_false, decide_true, decide_false, List.getElem?_cons_zero, List.getElem?_cons_succ, ↓aw1, ↓aw2, ↓aw17, aw3, aw4, aw5, aw6, aw7, aw8, aw9, aw10, aw11, aw12, aw13, aw14, aw15, aw16, aw19, Nat.reduceLeDiff, if_true, if_false, Nat.reduceEqDiff, Nat.reduceAdd, beq_self_eq_true, beq_true, beq_false, Bool.false_eq_true])
      first
      | exact ⟨i + 1, ⟨by omega, h2⟩, by omega, weak_of rfl (by simp [look])⟩
      | (subst h2; exact Fin.same0 hcl rfl ⟨by simp only [Bool.and_false], rfl⟩)
  · have e1 : decide ((i : Int) < (l.length : Int)) = false := by simp; omega
    rw [List.drop_eq_nil_of_le (by omega)] at h2
    simp only [List.any_nil, Bool.not_false] at h2
    subst h2
    simp only [e1, List.length_map, d0, ne_eq, not_false_eq_true, Option.map_some, Option.map_none, List.map_cons, List.map_nil, Bool.not_true, Bool.not_false, decide_true, decide_false, List.getElem?_cons_zero, List.getElem?_cons_succ, ↓aw1, ↓aw2, ↓aw17, aw3, aw4, aw5, aw6, aw7, aw8, aw9, aw10, aw11, aw12, aw13, aw14, aw15, aw16, aw19, Nat.reduceLeDiff, if_true, if_false, Nat.reduceEqDiff, Nat.reduceAdd, beq_self_eq_true, beq_true, beq_false, Bool.false_eq_true]
    exact Fin.same0 hcl rfl ⟨by simp only [Bool.and_true], rfl⟩

theorem okB_nil (r : Nat) : okB r [] = true := by cases r <;> rfl

/-- What the document asks of a statement, in its order. -/
theorem okS_ref (B : List Stmt → Bool) (hB : B [] = true) (s : Stmt) (h2 : decide (s.op = 2) = false) :
    okS B s = (!(!decide (s.op = 1) && (!decide (s.op = 3) && !decide (s.op = 4))) && isMe s.name && (decide (s.args.length ≤ 4096) && !s.args.any fun a => !okArg a) &&
      !(decide (s.op = 1) && decide (0 < s.thn.length)) && !(!decide (s.op = 3) && decide (0 < s.els.length)) && B s.thn && B s.els) := by
  have e4 : decide (4096 < s.args.length) = !decide (s.args.length ≤ 4096) := by rw [← decide_not, decide_eq_decide]; omega
  have et : decide (0 < s.thn.length) = !decide (s.thn.length = 0) := by rw [← decide_not, decide_eq_decide]; omega
  have ee : decide (0 < s.els.length) = !decide (s.els.length = 0) := by rw [← decide_not, decide_eq_decide]; omega
  have es : decide (s.thn.length + s.els.length = 0) = (decide (s.thn.length = 0) && decide (s.els.length = 0)) := by rw [← Bool.decide_and, decide_eq_decide]; omega
  unfold okS
  rw [h2, e4, et, ee, es]
  simp only [Bool.false_eq_true, if_false]
  have ht : decide (s.thn.length = 0) = true → B s.thn = true := fun h => by rw [List.length_eq_zero_iff.1 (of_decide_eq_true h)]; exact hB
  have he : decide (s.els.length = 0) = true → B s.els = true := fun h => by rw [List.length_eq_zero_iff.1 (of_decide_eq_true h)]; exact hB
  have h13 : decide (s.op = 1) = true → decide (s.op = 3) = false := fun h => by have := of_decide_eq_true h; simp [this]
  have h14 : decide (s.op = 1) = true → decide (s.op = 4) = false := fun h => by have := of_decide_eq_true h; simp [this]
  have h34 : decide (s.op = 3) = true → decide (s.op = 4) = false := fun h => by have := of_decide_eq_true h; simp [this]
  revert ht he h13 h14 h34
  generalize decide (s.op = 1) = a1
  generalize decide (s.op = 3) = a3
  generalize decide (s.op = 4) = a4
  generalize isMe s.name = m
  generalize decide (s.args.length ≤ 4096) = al
  generalize (s.args.any fun a => !okArg a) = aa
  generalize decide (s.thn.length = 0) = t0
  generalize decide (s.els.length = 0) = l0
  generalize B s.thn = bt
  generalize B s.els = be
  revert a1 a3 a4 m al aa t0 l0 bt be
  decide

set_option maxHeartbeats 8000000 in
theorem rbody_step (r : Nat) (hr : r < 40) (ih : ∀ (l : List Stmt) (h : List AObj), wL l < 2 ^ 40 → EvR E0 23 [bodyv l, i64 ((41 - r : Nat) : Int)] h (boolv (okB r l)))
    (l : List Stmt) (h : List AObj) (hw : wL l < 2 ^ 40) : EvR E0 23 [bodyv l, i64 ((41 - (r + 1) : Nat) : Int)] h (boolv (okB (r + 1) l)) := by
  refine ev_of (fn := Tryd.f23) (hs := []) Tryd.func23 c23 (by simp) fun hcl => ?_
  have hlen := wL_len l
  have dd : decide ((40 : Int) < ((41 - (r + 1) : Nat) : Int)) = false := by rw [decide_eq_false_iff_not]; omega
  have wd : IntKind.i64.wrap (((41 - (r + 1) : Nat) : Int) + 1) = ((41 - r : Nat) : Int) := by rw [wrap_i64] <;> omega
  by_cases hl : l = []
  · subst hl
    have z0 : decide ((0 : Int) < ((0 : Nat) : Int)) = false := rfl
    simp only [ac23, List.length_nil, z0, ne_eq, not_false_eq_true, Option.map_some, Option.map_none, List.map_cons, List.map_nil, Bool.not_true, Bool.not_false, decide_true, decide_false, List.getElem?_cons_zero, List.getElem?_cons_succ, ↓aw1, ↓aw2, ↓aw17, aw3, aw4, aw5, aw6, aw7, aw8, aw9, aw10, aw11, aw12, aw13, aw14, aw15, aw16, aw19, Nat.reduceLeDiff, if_true, if_false, Nat.reduceEqDiff, Nat.reduceAdd, beq_self_eq_true, beq_true, beq_false, Bool.false_eq_true]
    refine LoopF.by (α := Unit) (fun _ => ⟨[(0, bodyv []), (1, i64 ((41 - (r + 1) : Nat) : Int)), (5, i64 0)], h⟩) (fun _ => 0) (fun _ => True) () trivial (weak_of rfl (by simp [look])) ?_
    rintro _ _
    have z1 : decide ((0 : Int) < 0) = false := rfl
    simp only [List.length_nil, List.map_nil, z0, z1, ne_eq, not_false_eq_true, Option.map_some, Option.map_none, List.map_cons, List.map_nil, Bool.not_true, Bool.not_false, decide_true, decide_false, List.getElem?_cons_zero, List.getElem?_cons_succ, ↓aw1, ↓aw2, ↓aw17, aw3, aw4, aw5, aw6, aw7, aw8, aw9, aw10, aw11, aw12, aw13, aw14, aw15, aw16, aw19, Nat.reduceLeDiff, if_true, if_false, Nat.reduceEqDiff, Nat.reduceAdd, beq_self_eq_true, beq_true, beq_false, Bool.false_eq_true]
    exact Fin.same0 hcl rfl ⟨rfl, rfl⟩
  generalize hR : okB (r + 1) l = R
  have hl1 : 0 < l.length := by
    cases l with
    | nil => exact absurd rfl hl
    | cons _ _ => simp
  have z0 : decide ((0 : Int) < (l.length : Int)) = true := by rw [decide_eq_true_eq]; omega
  simp only [ac23, List.length_map, z0, dd, ne_eq, not_false_eq_true, Option.map_some, Option.map_none, List.map_cons, List.map_nil, Bool.not_true, Bool.not_false, decide_true, decide_false, List.getElem?_cons_zero, List.getElem?_cons_succ, ↓aw1, ↓aw2, ↓aw17, aw3, aw4, aw5, aw6, aw7, aw8, aw9, aw10, aw11, aw12, aw13, aw14, aw15, aw16, aw19, Nat.reduceLeDiff, if_true, if_false, Nat.reduceEqDiff, Nat.reduceAdd, beq_self_eq_true, beq_true, beq_false, Bool.false_eq_true]
  refine LoopF.by (α := Nat × List AObj) (fun x => ⟨[(0, bodyv l), (1, i64 ((41 - (r + 1) : Nat) : Int)), (5, i64 x.1)], h ++ x.2⟩) (fun x => l.length - x.1)
    (fun x => x.1 ≤ l.length ∧ (!(l.drop x.1).any fun s => !okS (okB r) s) = R) (0, []) ⟨by omega, hR⟩ (weak_of (by simp) (by simp [look])) ?_
  rintro ⟨i, J⟩ ⟨h1, h2⟩
  simp only at h1 h2
  by_cases hi : i < l.length
  · obtain ⟨s, hs⟩ : ∃ s, l[i]? = some s := ⟨_, List.getElem?_eq_getElem hi⟩
    have e1 : decide ((i : Int) < (l.length : Int)) = true := by rw [decide_eq_true_eq]; omega
    have w3 : IntKind.i64.wrap ((i : Int) + 1) = ((i + 1 : Nat) : Int) := by rw [wrap_i64] <;> omega
    have hmem := wL_mem (List.mem_of_getElem? hs)
    have hws := wS_eq s
    have ha := wA_len s.args
    have ht := wL_len s.thn
    have he := wL_len s.els
    have hfn := fun h => rfunction_ev s.name h (by omega)
    have hme := fun h => rmethod_ev s.name h (by omega)
    have hargs := fun h => rargs_ev s.args (by omega) h
    have hthn := fun h => ih s.thn h (by omega)
    have hels := fun h => ih s.els h (by omega)
    have w1 : IntKind.i64.wrap ((s.args.length : Int) + (s.thn.length : Int)) = ((s.args.length + s.thn.length : Nat) : Int) := by rw [wrap_i64] <;> omega
    have w2 : IntKind.i64.wrap (((s.args.length + s.thn.length : Nat) : Int) + (s.els.length : Int)) = ((s.args.length + s.thn.length + s.els.length : Nat) : Int) := by rw [wrap_i64] <;> omega
    have d1 : decide ((0 : Int) < ((s.args.length + s.thn.length + s.els.length : Nat) : Int)) = decide (0 < s.args.length + s.thn.length + s.els.length) := by rw [decide_eq_decide]; omega
    have d2 : decide ((0 : Int) < (s.thn.length : Int)) = decide (0 < s.thn.length) := by rw [decide_eq_decide]; omega
    have d3 : decide ((0 : Int) < (s.els.length : Int)) = decide (0 < s.els.length) := by rw [decide_eq_decide]; omega
    have dz : decide (s.args.length + s.thn.length + s.els.length = 0) = !decide (0 < s.args.length + s.thn.length + s.els.length) := by rw [← decide_not, decide_eq_decide]; omega
    rw [drop_get hs, List.any_cons, Bool.not_or, Bool.not_not] at h2
    simp only [e1, List.length_map, ne_eq, not_false_eq_true, Option.map_some, Option.map_none, List.map_cons, List.map_nil, Bool.not_true, Bool.not_false, decide_true, decide_false, List.getElem?_cons_zero, List.getElem?_cons_succ, ↓aw1, ↓aw2, ↓aw17, aw3, aw4, aw5, aw6, aw7, aw8, aw9, aw10, aw11, aw12, aw13, aw14, aw15, aw16, aw19, Nat.reduceLeDiff, if_true, if_false, Nat.reduceEqDiff, Nat.reduceAdd, beq_self_eq_true, beq_true, beq_false, Bool.false_eq_true]
    refine Need.mk ⟨by omega, by first | omega | (simp; omega)⟩ (Elem.recs (map_get stmtv l i s hs) (by rw [stmtv_eq]; exact ⟨rfl, rfl⟩) ?_)
    simp only [stmtv_eq, getJ, setJ, List.take_succ_cons, List.take_zero, List.drop_zero, List.drop_succ_cons, ne_eq, not_false_eq_true, Option.map_some, Option.map_none, List.map_cons, List.map_nil, Bool.not_true, Bool.not_false, decide_true, decide_false, List.getElem?_cons_zero, List.getElem?_cons_succ, ↓aw1, ↓aw2, ↓aw17, aw3, aw4, aw5, aw6, aw7, aw8, aw9, aw10, aw11, aw12, aw13, aw14, aw15, aw16, aw19, Nat.reduceLeDiff, if_true, if_false, Nat.reduceEqDiff, Nat.reduceAdd, beq_self_eq_true, beq_true, beq_false, Bool.false_eq_true]
    have okf : ∀ {b : Bool}, (false && b) = R → false = R := fun h => h
    have okt : ∀ {b : Bool}, (true && b) = R → b = R := fun h => h
    cases k2 : decide (s.op = 2)
    · skip
      simp only [k2, w1, w2, d1, d2, d3, wd, w3, stmtv_eq, getJ, setJ, List.length_map, List.take_succ_cons, List.take_zero, List.drop_zero, List.drop_succ_cons, ne_eq, not_false_eq_true, Option.map_some, Option.map_none, List.map_cons, List.map_nil, Bool.not_true, Bool.not_false, decide_true, decide_false, List.getElem?_cons_zero, List.getElem?_cons_succ, ↓aw1, ↓aw2, ↓aw17, aw3, aw4, aw5, aw6, aw7, aw8, aw9, aw10, aw11, aw12, aw13, aw14, aw15, aw16, aw19, Nat.reduceLeDiff, if_true, if_false, Nat.reduceEqDiff, Nat.reduceAdd, beq_self_eq_true, beq_true, beq_false, Bool.false_eq_true]
      cases b1 : decide (s.op = 1)
      · skip
        cases b3 : decide (s.op = 3)
        · skip
          cases b4 : decide (s.op = 4)
          · skip
            simp only [k2, b1, b3, b4, w1, w2, d1, d2, d3, wd, w3, stmtv_eq, getJ, setJ, List.length_map, List.take_succ_cons, List.take_zero, List.drop_zero, List.drop_succ_cons, ne_eq, not_false_eq_true, Option.map_some, Option.map_none, List.map_cons, List.map_nil, Bool.not_true, Bool.not_false, decide_true, decide_false, List.getElem?_cons_zero, List.getElem?_cons_succ, ↓aw1, ↓aw2, ↓aw17, aw3, aw4, aw5, aw6, aw7, aw8, aw9, aw10, aw11, aw12, aw13, aw14, aw15, aw16, aw19, Nat.reduceLeDiff, if_true, if_false, Nat.reduceEqDiff, Nat.reduceAdd, beq_self_eq_true, beq_true, beq_false, Bool.false_eq_true]
            rw [show okS (okB r) s = false by rw [okS_ref _ (okB_nil r) s k2]; simp only [b1, b3, b4, Bool.not_true, Bool.not_false, Bool.true_and, Bool.false_and, Bool.and_true, Bool.and_false, Bool.or_false, Bool.false_or, Bool.or_true, Bool.true_or, if_true, if_false, Bool.false_eq_true]] at h2
            have h2 := okf h2
            subst h2
            exact Fin.junk (h := h) (junk := J ++ [.cells [i64 s.op, str s.name, argsv s.args, bodyv s.thn, bodyv s.els]]) (by simp) (Nat.le_refl _) hcl rfl ⟨rfl, rfl⟩
          · skip
            simp only [b1, b3, b4, w1, w2, d1, d2, d3, wd, w3, stmtv_eq, getJ, setJ, List.length_map, List.take_succ_cons, List.take_zero, List.drop_zero, List.drop_succ_cons, ne_eq, not_false_eq_true, Option.map_some, Option.map_none, List.map_cons, List.map_nil, Bool.not_true, Bool.not_false, decide_true, decide_false, List.getElem?_cons_zero, List.getElem?_cons_succ, ↓aw1, ↓aw2, ↓aw17, aw3, aw4, aw5, aw6, aw7, aw8, aw9, aw10, aw11, aw12, aw13, aw14, aw15, aw16, aw19, Nat.reduceLeDiff, if_true, if_false, Nat.reduceEqDiff, Nat.reduceAdd, beq_self_eq_true, beq_true, beq_false, Bool.false_eq_true]
            refine EvF.ret (hme _) ?_
            cases m1 : isMe s.name
            · skip
              simp only [b1, b3, b4, m1, w1, w2, d1, d2, d3, wd, w3, stmtv_eq, getJ, setJ, List.length_map, List.take_succ_cons, List.take_zero, List.drop_zero, List.drop_succ_cons, ne_eq, not_false_eq_true, Option.map_some, Option.map_none, List.map_cons, List.map_nil, Bool.not_true, Bool.not_false, decide_true, decide_false, List.getElem?_cons_zero, List.getElem?_cons_succ, ↓aw1, ↓aw2, ↓aw17, aw3, aw4, aw5, aw6, aw7, aw8, aw9, aw10, aw11, aw12, aw13, aw14, aw15, aw16, aw19, Nat.reduceLeDiff, if_true, if_false, Nat.reduceEqDiff, Nat.reduceAdd, beq_self_eq_true, beq_true, beq_false, Bool.false_eq_true]
              rw [show okS (okB r) s = false by rw [okS_ref _ (okB_nil r) s k2]; simp only [b1, b3, b4, m1, Bool.not_true, Bool.not_false, Bool.true_and, Bool.false_and, Bool.and_true, Bool.and_false, Bool.or_false, Bool.false_or, Bool.or_true, Bool.true_or, if_true, if_false, Bool.false_eq_true]] at h2
              have h2 := okf h2
              subst h2
              exact Fin.junk (h := h) (junk := J ++ [.cells [i64 s.op, str s.name, argsv s.args, bodyv s.thn, bodyv s.els]]) (by simp) (Nat.le_refl _) hcl rfl ⟨rfl, rfl⟩
            · skip
              simp only [b1, b3, b4, m1, w1, w2, d1, d2, d3, wd, w3, stmtv_eq, getJ, setJ, List.length_map, List.take_succ_cons, List.take_zero, List.drop_zero, List.drop_succ_cons, ne_eq, not_false_eq_true, Option.map_some, Option.map_none, List.map_cons, List.map_nil, Bool.not_true, Bool.not_false, decide_true, decide_false, List.getElem?_cons_zero, List.getElem?_cons_succ, ↓aw1, ↓aw2, ↓aw17, aw3, aw4, aw5, aw6, aw7, aw8, aw9, aw10, aw11, aw12, aw13, aw14, aw15, aw16, aw19, Nat.reduceLeDiff, if_true, if_false, Nat.reduceEqDiff, Nat.reduceAdd, beq_self_eq_true, beq_true, beq_false, Bool.false_eq_true]
              refine EvF.ret (hargs _) ?_
              cases m2 : (decide (s.args.length ≤ 4096) && !s.args.any fun a => !okArg a)
              · skip
                simp only [b1, b3, b4, m1, m2, w1, w2, d1, d2, d3, wd, w3, stmtv_eq, getJ, setJ, List.length_map, List.take_succ_cons, List.take_zero, List.drop_zero, List.drop_succ_cons, ne_eq, not_false_eq_true, Option.map_some, Option.map_none, List.map_cons, List.map_nil, Bool.not_true, Bool.not_false, decide_true, decide_false, List.getElem?_cons_zero, List.getElem?_cons_succ, ↓aw1, ↓aw2, ↓aw17, aw3, aw4, aw5, aw6, aw7, aw8, aw9, aw10, aw11, aw12, aw13, aw14, aw15, aw16, aw19, Nat.reduceLeDiff, if_true, if_false, Nat.reduceEqDiff, Nat.reduceAdd, beq_self_eq_true, beq_true, beq_false, Bool.false_eq_true]
                rw [show okS (okB r) s = false by rw [okS_ref _ (okB_nil r) s k2]; simp only [b1, b3, b4, m1, m2, Bool.not_true, Bool.not_false, Bool.true_and, Bool.false_and, Bool.and_true, Bool.and_false, Bool.or_false, Bool.false_or, Bool.or_true, Bool.true_or, if_true, if_false, Bool.false_eq_true]] at h2
                have h2 := okf h2
                subst h2
                exact Fin.junk (h := h) (junk := J ++ [.cells [i64 s.op, str s.name, argsv s.args, bodyv s.thn, bodyv s.els]]) (by simp) (Nat.le_refl _) hcl rfl ⟨rfl, rfl⟩
              · skip
                cases e0 : decide (0 < s.els.length)
                · skip
                  simp only [b1, b3, b4, m1, m2, e0, w1, w2, d1, d2, d3, wd, w3, stmtv_eq, getJ, setJ, List.length_map, List.take_succ_cons, List.take_zero, List.drop_zero, List.drop_succ_cons, ne_eq, not_false_eq_true, Option.map_some, Option.map_none, List.map_cons, List.map_nil, Bool.not_true, Bool.not_false, decide_true, decide_false, List.getElem?_cons_zero, List.getElem?_cons_succ, ↓aw1, ↓aw2, ↓aw17, aw3, aw4, aw5, aw6, aw7, aw8, aw9, aw10, aw11, aw12, aw13, aw14, aw15, aw16, aw19, Nat.reduceLeDiff, if_true, if_false, Nat.reduceEqDiff, Nat.reduceAdd, beq_self_eq_true, beq_true, beq_false, Bool.false_eq_true]
                  refine EvF.ret (hthn _) ?_
                  cases bt : okB r s.thn
                  · skip
                    simp only [b1, b3, b4, m1, m2, e0, bt, w1, w2, d1, d2, d3, wd, w3, stmtv_eq, getJ, setJ, List.length_map, List.take_succ_cons, List.take_zero, List.drop_zero, List.drop_succ_cons, ne_eq, not_false_eq_true, Option.map_some, Option.map_none, List.map_cons, List.map_nil, Bool.not_true, Bool.not_false, decide_true, decide_false, List.getElem?_cons_zero, List.getElem?_cons_succ, ↓aw1, ↓aw2, ↓aw17, aw3, aw4, aw5, aw6, aw7, aw8, aw9, aw10, aw11, aw12, aw13, aw14, aw15, aw16, aw19, Nat.reduceLeDiff, if_true, if_false, Nat.reduceEqDiff, Nat.reduceAdd, beq_self_eq_true, beq_true, beq_false, Bool.false_eq_true]
                    rw [show okS (okB r) s = false by rw [okS_ref _ (okB_nil r) s k2]; simp only [b1, b3, b4, m1, m2, e0, bt, Bool.not_true, Bool.not_false, Bool.true_and, Bool.false_and, Bool.and_true, Bool.and_false, Bool.or_false, Bool.false_or, Bool.or_true, Bool.true_or, if_true, if_false, Bool.false_eq_true]] at h2
                    have h2 := okf h2
                    subst h2
                    exact Fin.junk (h := h) (junk := J ++ [.cells [i64 s.op, str s.name, argsv s.args, bodyv s.thn, bodyv s.els]]) (by simp) (Nat.le_refl _) hcl rfl ⟨rfl, rfl⟩
                  · skip
                    simp only [b1, b3, b4, m1, m2, e0, bt, w1, w2, d1, d2, d3, wd, w3, stmtv_eq, getJ, setJ, List.length_map, List.take_succ_cons, List.take_zero, List.drop_zero, List.drop_succ_cons, ne_eq, not_false_eq_true, Option.map_some, Option.map_none, List.map_cons, List.map_nil, Bool.not_true, Bool.not_false, decide_true, decide_false, List.getElem?_cons_zero, List.getElem?_cons_succ, ↓aw1, ↓aw2, ↓aw17, aw3, aw4, aw5, aw6, aw7, aw8, aw9, aw10, aw11, aw12, aw13, aw14, aw15, aw16, aw19, Nat.reduceLeDiff, if_true, if_false, Nat.reduceEqDiff, Nat.reduceAdd, beq_self_eq_true, beq_true, beq_false, Bool.false_eq_true]
                    refine EvF.ret (hels _) ?_
                    cases be : okB r s.els
                    · skip
                      simp only [b1, b3, b4, m1, m2, e0, bt, be, w1, w2, d1, d2, d3, wd, w3, stmtv_eq, getJ, setJ, List.length_map, List.take_succ_cons, List.take_zero, List.drop_zero, List.drop_succ_cons, ne_eq, not_false_eq_true, Option.map_some, Option.map_none, List.map_cons, List.map_nil, Bool.not_true, Bool.not_false, decide_true, decide_false, List.getElem?_cons_zero, List.getElem?_cons_succ, ↓aw1, ↓aw2, ↓aw17, aw3, aw4, aw5, aw6, aw7, aw8, aw9, aw10, aw11, aw12, aw13, aw14, aw15, aw16, aw19, Nat.reduceLeDiff, if_true, if_false, Nat.reduceEqDiff, Nat.reduceAdd, beq_self_eq_true, beq_true, beq_false, Bool.false_eq_true]
                      rw [show okS (okB r) s = false by rw [okS_ref _ (okB_nil r) s k2]; simp only [b1, b3, b4, m1, m2, e0, bt, be, Bool.not_true, Bool.not_false, Bool.true_and, Bool.false_and, Bool.and_true, Bool.and_false, Bool.or_false, Bool.false_or, Bool.or_true, Bool.true_or, if_true, if_false, Bool.false_eq_true]] at h2
                      have h2 := okf h2
                      subst h2
                      exact Fin.junk (h := h) (junk := J ++ [.cells [i64 s.op, str s.name, argsv s.args, bodyv s.thn, bodyv s.els]]) (by simp) (Nat.le_refl _) hcl rfl ⟨rfl, rfl⟩
                    · skip
                      simp only [b1, b3, b4, m1, m2, e0, bt, be, w1, w2, d1, d2, d3, wd, w3, stmtv_eq, getJ, setJ, List.length_map, List.take_succ_cons, List.take_zero, List.drop_zero, List.drop_succ_cons, ne_eq, not_false_eq_true, Option.map_some, Option.map_none, List.map_cons, List.map_nil, Bool.not_true, Bool.not_false, decide_true, decide_false, List.getElem?_cons_zero, List.getElem?_cons_succ, ↓aw1, ↓aw2, ↓aw17, aw3, aw4, aw5, aw6, aw7, aw8, aw9, aw10, aw11, aw12, aw13, aw14, aw15, aw16, aw19, Nat.reduceLeDiff, if_true, if_false, Nat.reduceEqDiff, Nat.reduceAdd, beq_self_eq_true, beq_true, beq_false, Bool.false_eq_true]
                      rw [show okS (okB r) s = true by rw [okS_ref _ (okB_nil r) s k2]; simp only [b1, b3, b4, m1, m2, e0, bt, be, Bool.not_true, Bool.not_false, Bool.true_and, Bool.false_and, Bool.and_true, Bool.and_false, Bool.or_false, Bool.false_or, Bool.or_true, Bool.true_or, if_true, if_false, Bool.false_eq_true]] at h2
                      exact ⟨(i + 1, J ++ [.cells [i64 s.op, str s.name, argsv s.args, bodyv s.thn, bodyv s.els]]), ⟨by simp only; omega, okt h2⟩, by simp only; omega, weak_of (by simp) (by simp [look])⟩
                · skip
                  simp only [b1, b3, b4, m1, m2, e0, w1, w2, d1, d2, d3, wd, w3, stmtv_eq, getJ, setJ, List.length_map, List.take_succ_cons, List.take_zero, List.drop_zero, List.drop_succ_cons, ne_eq, not_false_eq_true, Option.map_some, Option.map_none, List.map_cons, List.map_nil, Bool.not_true, Bool.not_false, decide_true, decide_false, List.getElem?_cons_zero, List.getElem?_cons_succ, ↓aw1, ↓aw2, ↓aw17, aw3, aw4, aw5, aw6, aw7, aw8, aw9, aw10, aw11, aw12, aw13, aw14, aw15, aw16, aw19, Nat.reduceLeDiff, if_true, if_false, Nat.reduceEqDiff, Nat.reduceAdd, beq_self_eq_true, beq_true, beq_false, Bool.false_eq_true]
                  rw [show okS (okB r) s = false by rw [okS_ref _ (okB_nil r) s k2]; simp only [b1, b3, b4, m1, m2, e0, Bool.not_true, Bool.not_false, Bool.true_and, Bool.false_and, Bool.and_true, Bool.and_false, Bool.or_false, Bool.false_or, Bool.or_true, Bool.true_or, if_true, if_false, Bool.false_eq_true]] at h2
                  have h2 := okf h2
                  subst h2
                  exact Fin.junk (h := h) (junk := J ++ [.cells [i64 s.op, str s.name, argsv s.args, bodyv s.thn, bodyv s.els]]) (by simp) (Nat.le_refl _) hcl rfl ⟨rfl, rfl⟩
        · skip
          simp only [b1, b3, w1, w2, d1, d2, d3, wd, w3, stmtv_eq, getJ, setJ, List.length_map, List.take_succ_cons, List.take_zero, List.drop_zero, List.drop_succ_cons, ne_eq, not_false_eq_true, Option.map_some, Option.map_none, List.map_cons, List.map_nil, Bool.not_true, Bool.not_false, decide_true, decide_false, List.getElem?_cons_zero, List.getElem?_cons_succ, ↓aw1, ↓aw2, ↓aw17, aw3, aw4, aw5, aw6, aw7, aw8, aw9, aw10, aw11, aw12, aw13, aw14, aw15, aw16, aw19, Nat.reduceLeDiff, if_true, if_false, Nat.reduceEqDiff, Nat.reduceAdd, beq_self_eq_true, beq_true, beq_false, Bool.false_eq_true]
          refine EvF.ret (hme _) ?_
          cases m1 : isMe s.name
          · skip
            simp only [b1, b3, m1, w1, w2, d1, d2, d3, wd, w3, stmtv_eq, getJ, setJ, List.length_map, List.take_succ_cons, List.take_zero, List.drop_zero, List.drop_succ_cons, ne_eq, not_false_eq_true, Option.map_some, Option.map_none, List.map_cons, List.map_nil, Bool.not_true, Bool.not_false, decide_true, decide_false, List.getElem?_cons_zero, List.getElem?_cons_succ, ↓aw1, ↓aw2, ↓aw17, aw3, aw4, aw5, aw6, aw7, aw8, aw9, aw10, aw11, aw12, aw13, aw14, aw15, aw16, aw19, Nat.reduceLeDiff, if_true, if_false, Nat.reduceEqDiff, Nat.reduceAdd, beq_self_eq_true, beq_true, beq_false, Bool.false_eq_true]
            rw [show okS (okB r) s = false by rw [okS_ref _ (okB_nil r) s k2]; simp only [b1, b3, m1, Bool.not_true, Bool.not_false, Bool.true_and, Bool.false_and, Bool.and_true, Bool.and_false, Bool.or_false, Bool.false_or, Bool.or_true, Bool.true_or, if_true, if_false, Bool.false_eq_true]] at h2
            have h2 := okf h2
            subst h2
            exact Fin.junk (h := h) (junk := J ++ [.cells [i64 s.op, str s.name, argsv s.args, bodyv s.thn, bodyv s.els]]) (by simp) (Nat.le_refl _) hcl rfl ⟨rfl, rfl⟩
          · skip
            simp only [b1, b3, m1, w1, w2, d1, d2, d3, wd, w3, stmtv_eq, getJ, setJ, List.length_map, List.take_succ_cons, List.take_zero, List.drop_zero, List.drop_succ_cons, ne_eq, not_false_eq_true, Option.map_some, Option.map_none, List.map_cons, List.map_nil, Bool.not_true, Bool.not_false, decide_true, decide_false, List.getElem?_cons_zero, List.getElem?_cons_succ, ↓aw1, ↓aw2, ↓aw17, aw3, aw4, aw5, aw6, aw7, aw8, aw9, aw10, aw11, aw12, aw13, aw14, aw15, aw16, aw19, Nat.reduceLeDiff, if_true, if_false, Nat.reduceEqDiff, Nat.reduceAdd, beq_self_eq_true, beq_true, beq_false, Bool.false_eq_true]
            refine EvF.ret (hargs _) ?_
            cases m2 : (decide (s.args.length ≤ 4096) && !s.args.any fun a => !okArg a)
            · skip
              simp only [b1, b3, m1, m2, w1, w2, d1, d2, d3, wd, w3, stmtv_eq, getJ, setJ, List.length_map, List.take_succ_cons, List.take_zero, List.drop_zero, List.drop_succ_cons, ne_eq, not_false_eq_true, Option.map_some, Option.map_none, List.map_cons, List.map_nil, Bool.not_true, Bool.not_false, decide_true, decide_false, List.getElem?_cons_zero, List.getElem?_cons_succ, ↓aw1, ↓aw2, ↓aw17, aw3, aw4, aw5, aw6, aw7, aw8, aw9, aw10, aw11, aw12, aw13, aw14, aw15, aw16, aw19, Nat.reduceLeDiff, if_true, if_false, Nat.reduceEqDiff, Nat.reduceAdd, beq_self_eq_true, beq_true, beq_false, Bool.false_eq_true]
              rw [show okS (okB r) s = false by rw [okS_ref _ (okB_nil r) s k2]; simp only [b1, b3, m1, m2, Bool.not_true, Bool.not_false, Bool.true_and, Bool.false_and, Bool.and_true, Bool.and_false, Bool.or_false, Bool.false_or, Bool.or_true, Bool.true_or, if_true, if_false, Bool.false_eq_true]] at h2
              have h2 := okf h2
              subst h2
              exact Fin.junk (h := h) (junk := J ++ [.cells [i64 s.op, str s.name, argsv s.args, bodyv s.thn, bodyv s.els]]) (by simp) (Nat.le_refl _) hcl rfl ⟨rfl, rfl⟩
            · skip
              simp only [b1, b3, m1, m2, w1, w2, d1, d2, d3, wd, w3, stmtv_eq, getJ, setJ, List.length_map, List.take_succ_cons, List.take_zero, List.drop_zero, List.drop_succ_cons, ne_eq, not_false_eq_true, Option.map_some, Option.map_none, List.map_cons, List.map_nil, Bool.not_true, Bool.not_false, decide_true, decide_false, List.getElem?_cons_zero, List.getElem?_cons_succ, ↓aw1, ↓aw2, ↓aw17, aw3, aw4, aw5, aw6, aw7, aw8, aw9, aw10, aw11, aw12, aw13, aw14, aw15, aw16, aw19, Nat.reduceLeDiff, if_true, if_false, Nat.reduceEqDiff, Nat.reduceAdd, beq_self_eq_true, beq_true, beq_false, Bool.false_eq_true]
              refine EvF.ret (hthn _) ?_
              cases bt : okB r s.thn
              · skip
                simp only [b1, b3, m1, m2, bt, w1, w2, d1, d2, d3, wd, w3, stmtv_eq, getJ, setJ, List.length_map, List.take_succ_cons, List.take_zero, List.drop_zero, List.drop_succ_cons, ne_eq, not_false_eq_true, Option.map_some, Option.map_none, List.map_cons, List.map_nil, Bool.not_true, Bool.not_false, decide_true, decide_false, List.getElem?_cons_zero, List.getElem?_cons_succ, ↓aw1, ↓aw2, ↓aw17, aw3, aw4, aw5, aw6, aw7, aw8, aw9, aw10, aw11, aw12, aw13, aw14, aw15, aw16, aw19, Nat.reduceLeDiff, if_true, if_false, Nat.reduceEqDiff, Nat.reduceAdd, beq_self_eq_true, beq_true, beq_false, Bool.false_eq_true]
                rw [show okS (okB r) s = false by rw [okS_ref _ (okB_nil r) s k2]; simp only [b1, b3, m1, m2, bt, Bool.not_true, Bool.not_false, Bool.true_and, Bool.false_and, Bool.and_true, Bool.and_false, Bool.or_false, Bool.false_or, Bool.or_true, Bool.true_or, if_true, if_false, Bool.false_eq_true]] at h2
                have h2 := okf h2
                subst h2
                exact Fin.junk (h := h) (junk := J ++ [.cells [i64 s.op, str s.name, argsv s.args, bodyv s.thn, bodyv s.els]]) (by simp) (Nat.le_refl _) hcl rfl ⟨rfl, rfl⟩
              · skip
                simp only [b1, b3, m1, m2, bt, w1, w2, d1, d2, d3, wd, w3, stmtv_eq, getJ, setJ, List.length_map, List.take_succ_cons, List.take_zero, List.drop_zero, List.drop_succ_cons, ne_eq, not_false_eq_true, Option.map_some, Option.map_none, List.map_cons, List.map_nil, Bool.not_true, Bool.not_false, decide_true, decide_false, List.getElem?_cons_zero, List.getElem?_cons_succ, ↓aw1, ↓aw2, ↓aw17, aw3, aw4, aw5, aw6, aw7, aw8, aw9, aw10, aw11, aw12, aw13, aw14, aw15, aw16, aw19, Nat.reduceLeDiff, if_true, if_false, Nat.reduceEqDiff, Nat.reduceAdd, beq_self_eq_true, beq_true, beq_false, Bool.false_eq_true]
                refine EvF.ret (hels _) ?_
                cases be : okB r s.els
                · skip
                  simp only [b1, b3, m1, m2, bt, be, w1, w2, d1, d2, d3, wd, w3, stmtv_eq, getJ, setJ, List.length_map, List.take_succ_cons, List.take_zero, List.drop_zero, List.drop_succ_cons, ne_eq, not_false_eq_true, Option.map_some, Option.map_none, List.map_cons, List.map_nil, Bool.not_true, Bool.not_false, decide_true, decide_false, List.getElem?_cons_zero, List.getElem?_cons_succ, ↓aw1, ↓aw2, ↓aw17, aw3, aw4, aw5, aw6, aw7, aw8, aw9, aw10, aw11, aw12, aw13, aw14, aw15, aw16, aw19, Nat.reduceLeDiff, if_true, if_false, Nat.reduceEqDiff, Nat.reduceAdd, beq_self_eq_true, beq_true, beq_false, Bool.false_eq_true]
                  rw [show okS (okB r) s = false by rw [okS_ref _ (okB_nil r) s k2]; simp only [b1, b3, m1, m2, bt, be, Bool.not_true, Bool.not_false, Bool.true_and, Bool.false_and, Bool.and_true, Bool.and_false, Bool.or_false, Bool.false_or, Bool.or_true, Bool.true_or, if_true, if_false, Bool.false_eq_true]] at h2
                  have h2 := okf h2
                  subst h2
                  exact Fin.junk (h := h) (junk := J ++ [.cells [i64 s.op, str s.name, argsv s.args, bodyv s.thn, bodyv s.els]]) (by simp) (Nat.le_refl _) hcl rfl ⟨rfl, rfl⟩
                · skip
                  simp only [b1, b3, m1, m2, bt, be, w1, w2, d1, d2, d3, wd, w3, stmtv_eq, getJ, setJ, List.length_map, List.take_succ_cons, List.take_zero, List.drop_zero, List.drop_succ_cons, ne_eq, not_false_eq_true, Option.map_some, Option.map_none, List.map_cons, List.map_nil, Bool.not_true, Bool.not_false, decide_true, decide_false, List.getElem?_cons_zero, List.getElem?_cons_succ, ↓aw1, ↓aw2, ↓aw17, aw3, aw4, aw5, aw6, aw7, aw8, aw9, aw10, aw11, aw12, aw13, aw14, aw15, aw16, aw19, Nat.reduceLeDiff, if_true, if_false, Nat.reduceEqDiff, Nat.reduceAdd, beq_self_eq_true, beq_true, beq_false, Bool.false_eq_true]
                  rw [show okS (okB r) s = true by rw [okS_ref _ (okB_nil r) s k2]; simp only [b1, b3, m1, m2, bt, be, Bool.not_true, Bool.not_false, Bool.true_and, Bool.false_and, Bool.and_true, Bool.and_false, Bool.or_false, Bool.false_or, Bool.or_true, Bool.true_or, if_true, if_false, Bool.false_eq_true]] at h2
                  exact ⟨(i + 1, J ++ [.cells [i64 s.op, str s.name, argsv s.args, bodyv s.thn, bodyv s.els]]), ⟨by simp only; omega, okt h2⟩, by simp only; omega, weak_of (by simp) (by simp [look])⟩
      · skip
        have b3 : decide (s.op = 3) = false := by have := of_decide_eq_true b1; simp [this]
        simp only [b1, b3, w1, w2, d1, d2, d3, wd, w3, stmtv_eq, getJ, setJ, List.length_map, List.take_succ_cons, List.take_zero, List.drop_zero, List.drop_succ_cons, ne_eq, not_false_eq_true, Option.map_some, Option.map_none, List.map_cons, List.map_nil, Bool.not_true, Bool.not_false, decide_true, decide_false, List.getElem?_cons_zero, List.getElem?_cons_succ, ↓aw1, ↓aw2, ↓aw17, aw3, aw4, aw5, aw6, aw7, aw8, aw9, aw10, aw11, aw12, aw13, aw14, aw15, aw16, aw19, Nat.reduceLeDiff, if_true, if_false, Nat.reduceEqDiff, Nat.reduceAdd, beq_self_eq_true, beq_true, beq_false, Bool.false_eq_true]
        refine EvF.ret (hme _) ?_
        cases m1 : isMe s.name
        · skip
          simp only [b1, b3, m1, w1, w2, d1, d2, d3, wd, w3, stmtv_eq, getJ, setJ, List.length_map, List.take_succ_cons, List.take_zero, List.drop_zero, List.drop_succ_cons, ne_eq, not_false_eq_true, Option.map_some, Option.map_none, List.map_cons, List.map_nil, Bool.not_true, Bool.not_false, decide_true, decide_false, List.getElem?_cons_zero, List.getElem?_cons_succ, ↓aw1, ↓aw2, ↓aw17, aw3, aw4, aw5, aw6, aw7, aw8, aw9, aw10, aw11, aw12, aw13, aw14, aw15, aw16, aw19, Nat.reduceLeDiff, if_true, if_false, Nat.reduceEqDiff, Nat.reduceAdd, beq_self_eq_true, beq_true, beq_false, Bool.false_eq_true]
          rw [show okS (okB r) s = false by rw [okS_ref _ (okB_nil r) s k2]; simp only [b1, b3, m1, Bool.not_true, Bool.not_false, Bool.true_and, Bool.false_and, Bool.and_true, Bool.and_false, Bool.or_false, Bool.false_or, Bool.or_true, Bool.true_or, if_true, if_false, Bool.false_eq_true]] at h2
          have h2 := okf h2
          subst h2
          exact Fin.junk (h := h) (junk := J ++ [.cells [i64 s.op, str s.name, argsv s.args, bodyv s.thn, bodyv s.els]]) (by simp) (Nat.le_refl _) hcl rfl ⟨rfl, rfl⟩
        · skip
          simp only [b1, b3, m1, w1, w2, d1, d2, d3, wd, w3, stmtv_eq, getJ, setJ, List.length_map, List.take_succ_cons, List.take_zero, List.drop_zero, List.drop_succ_cons, ne_eq, not_false_eq_true, Option.map_some, Option.map_none, List.map_cons, List.map_nil, Bool.not_true, Bool.not_false, decide_true, decide_false, List.getElem?_cons_zero, List.getElem?_cons_succ, ↓aw1, ↓aw2, ↓aw17, aw3, aw4, aw5, aw6, aw7, aw8, aw9, aw10, aw11, aw12, aw13, aw14, aw15, aw16, aw19, Nat.reduceLeDiff, if_true, if_false, Nat.reduceEqDiff, Nat.reduceAdd, beq_self_eq_true, beq_true, beq_false, Bool.false_eq_true]
          refine EvF.ret (hargs _) ?_
          cases m2 : (decide (s.args.length ≤ 4096) && !s.args.any fun a => !okArg a)
          · skip
            simp only [b1, b3, m1, m2, w1, w2, d1, d2, d3, wd, w3, stmtv_eq, getJ, setJ, List.length_map, List.take_succ_cons, List.take_zero, List.drop_zero, List.drop_succ_cons, ne_eq, not_false_eq_true, Option.map_some, Option.map_none, List.map_cons, List.map_nil, Bool.not_true, Bool.not_false, decide_true, decide_false, List.getElem?_cons_zero, List.getElem?_cons_succ, ↓aw1, ↓aw2, ↓aw17, aw3, aw4, aw5, aw6, aw7, aw8, aw9, aw10, aw11, aw12, aw13, aw14, aw15, aw16, aw19, Nat.reduceLeDiff, if_true, if_false, Nat.reduceEqDiff, Nat.reduceAdd, beq_self_eq_true, beq_true, beq_false, Bool.false_eq_true]
            rw [show okS (okB r) s = false by rw [okS_ref _ (okB_nil r) s k2]; simp only [b1, b3, m1, m2, Bool.not_true, Bool.not_false, Bool.true_and, Bool.false_and, Bool.and_true, Bool.and_false, Bool.or_false, Bool.false_or, Bool.or_true, Bool.true_or, if_true, if_false, Bool.false_eq_true]] at h2
            have h2 := okf h2
            subst h2
            exact Fin.junk (h := h) (junk := J ++ [.cells [i64 s.op, str s.name, argsv s.args, bodyv s.thn, bodyv s.els]]) (by simp) (Nat.le_refl _) hcl rfl ⟨rfl, rfl⟩
          · skip
            cases t0 : decide (0 < s.thn.length)
            · skip
              cases e0 : decide (0 < s.els.length)
              · skip
                simp only [b1, b3, m1, m2, t0, e0, w1, w2, d1, d2, d3, wd, w3, stmtv_eq, getJ, setJ, List.length_map, List.take_succ_cons, List.take_zero, List.drop_zero, List.drop_succ_cons, ne_eq, not_false_eq_true, Option.map_some, Option.map_none, List.map_cons, List.map_nil, Bool.not_true, Bool.not_false, decide_true, decide_false, List.getElem?_cons_zero, List.getElem?_cons_succ, ↓aw1, ↓aw2, ↓aw17, aw3, aw4, aw5, aw6, aw7, aw8, aw9, aw10, aw11, aw12, aw13, aw14, aw15, aw16, aw19, Nat.reduceLeDiff, if_true, if_false, Nat.reduceEqDiff, Nat.reduceAdd, beq_self_eq_true, beq_true, beq_false, Bool.false_eq_true]
                refine EvF.ret (hthn _) ?_
                cases bt : okB r s.thn
                · skip
                  simp only [b1, b3, m1, m2, t0, e0, bt, w1, w2, d1, d2, d3, wd, w3, stmtv_eq, getJ, setJ, List.length_map, List.take_succ_cons, List.take_zero, List.drop_zero, List.drop_succ_cons, ne_eq, not_false_eq_true, Option.map_some, Option.map_none, List.map_cons, List.map_nil, Bool.not_true, Bool.not_false, decide_true, decide_false, List.getElem?_cons_zero, List.getElem?_cons_succ, ↓aw1, ↓aw2, ↓aw17, aw3, aw4, aw5, aw6, aw7, aw8, aw9, aw10, aw11, aw12, aw13, aw14, aw15, aw16, aw19, Nat.reduceLeDiff, if_true, if_false, Nat.reduceEqDiff, Nat.reduceAdd, beq_self_eq_true, beq_true, beq_false, Bool.false_eq_true]
                  rw [show okS (okB r) s = false by rw [okS_ref _ (okB_nil r) s k2]; simp only [b1, b3, m1, m2, t0, e0, bt, Bool.not_true, Bool.not_false, Bool.true_and, Bool.false_and, Bool.and_true, Bool.and_false, Bool.or_false, Bool.false_or, Bool.or_true, Bool.true_or, if_true, if_false, Bool.false_eq_true]] at h2
                  have h2 := okf h2
                  subst h2
                  exact Fin.junk (h := h) (junk := J ++ [.cells [i64 s.op, str s.name, argsv s.args, bodyv s.thn, bodyv s.els]]) (by simp) (Nat.le_refl _) hcl rfl ⟨rfl, rfl⟩
                · skip
                  simp only [b1, b3, m1, m2, t0, e0, bt, w1, w2, d1, d2, d3, wd, w3, stmtv_eq, getJ, setJ, List.length_map, List.take_succ_cons, List.take_zero, List.drop_zero, List.drop_succ_cons, ne_eq, not_false_eq_true, Option.map_some, Option.map_none, List.map_cons, List.map_nil, Bool.not_true, Bool.not_false, decide_true, decide_false, List.getElem?_cons_zero, List.getElem?_cons_succ, ↓aw1, ↓aw2, ↓aw17, aw3, aw4, aw5, aw6, aw7, aw8, aw9, aw10, aw11, aw12, aw13, aw14, aw15, aw16, aw19, Nat.reduceLeDiff, if_true, if_false, Nat.reduceEqDiff, Nat.reduceAdd, beq_self_eq_true, beq_true, beq_false, Bool.false_eq_true]
                  refine EvF.ret (hels _) ?_
                  cases be : okB r s.els
                  · skip
                    simp only [b1, b3, m1, m2, t0, e0, bt, be, w1, w2, d1, d2, d3, wd, w3, stmtv_eq, getJ, setJ, List.length_map, List.take_succ_cons, List.take_zero, List.drop_zero, List.drop_succ_cons, ne_eq, not_false_eq_true, Option.map_some, Option.map_none, List.map_cons, List.map_nil, Bool.not_true, Bool.not_false, decide_true, decide_false, List.getElem?_cons_zero, List.getElem?_cons_succ, ↓aw1, ↓aw2, ↓aw17, aw3, aw4, aw5, aw6, aw7, aw8, aw9, aw10, aw11, aw12, aw13, aw14, aw15, aw16, aw19, Nat.reduceLeDiff, if_true, if_false, Nat.reduceEqDiff, Nat.reduceAdd, beq_self_eq_true, beq_true, beq_false, Bool.false_eq_true]
                    rw [show okS (okB r) s = false by rw [okS_ref _ (okB_nil r) s k2]; simp only [b1, b3, m1, m2, t0, e0, bt, be, Bool.not_true, Bool.not_false, Bool.true_and, Bool.false_and, Bool.and_true, Bool.and_false, Bool.or_false, Bool.false_or, Bool.or_true, Bool.true_or, if_true, if_false, Bool.false_eq_true]] at h2
                    have h2 := okf h2
                    subst h2
                    exact Fin.junk (h := h) (junk := J ++ [.cells [i64 s.op, str s.name, argsv s.args, bodyv s.thn, bodyv s.els]]) (by simp) (Nat.le_refl _) hcl rfl ⟨rfl, rfl⟩
                  · skip
                    simp only [b1, b3, m1, m2, t0, e0, bt, be, w1, w2, d1, d2, d3, wd, w3, stmtv_eq, getJ, setJ, List.length_map, List.take_succ_cons, List.take_zero, List.drop_zero, List.drop_succ_cons, ne_eq, not_false_eq_true, Option.map_some, Option.map_none, List.map_cons, List.map_nil, Bool.not_true, Bool.not_false, decide_true, decide_false, List.getElem?_cons_zero, List.getElem?_cons_succ, ↓aw1, ↓aw2, ↓aw17, aw3, aw4, aw5, aw6, aw7, aw8, aw9, aw10, aw11, aw12, aw13, aw14, aw15, aw16, aw19, Nat.reduceLeDiff, if_true, if_false, Nat.reduceEqDiff, Nat.reduceAdd, beq_self_eq_true, beq_true, beq_false, Bool.false_eq_true]
                    rw [show okS (okB r) s = true by rw [okS_ref _ (okB_nil r) s k2]; simp only [b1, b3, m1, m2, t0, e0, bt, be, Bool.not_true, Bool.not_false, Bool.true_and, Bool.false_and, Bool.and_true, Bool.and_false, Bool.or_false, Bool.false_or, Bool.or_true, Bool.true_or, if_true, if_false, Bool.false_eq_true]] at h2
                    exact ⟨(i + 1, J ++ [.cells [i64 s.op, str s.name, argsv s.args, bodyv s.thn, bodyv s.els]]), ⟨by simp only; omega, okt h2⟩, by simp only; omega, weak_of (by simp) (by simp [look])⟩
              · skip
                simp only [b1, b3, m1, m2, t0, e0, w1, w2, d1, d2, d3, wd, w3, stmtv_eq, getJ, setJ, List.length_map, List.take_succ_cons, List.take_zero, List.drop_zero, List.drop_succ_cons, ne_eq, not_false_eq_true, Option.map_some, Option.map_none, List.map_cons, List.map_nil, Bool.not_true, Bool.not_false, decide_true, decide_false, List.getElem?_cons_zero, List.getElem?_cons_succ, ↓aw1, ↓aw2, ↓aw17, aw3, aw4, aw5, aw6, aw7, aw8, aw9, aw10, aw11, aw12, aw13, aw14, aw15, aw16, aw19, Nat.reduceLeDiff, if_true, if_false, Nat.reduceEqDiff, Nat.reduceAdd, beq_self_eq_true, beq_true, beq_false, Bool.false_eq_true]
                rw [show okS (okB r) s = false by rw [okS_ref _ (okB_nil r) s k2]; simp only [b1, b3, m1, m2, t0, e0, Bool.not_true, Bool.not_false, Bool.true_and, Bool.false_and, Bool.and_true, Bool.and_false, Bool.or_false, Bool.false_or, Bool.or_true, Bool.true_or, if_true, if_false, Bool.false_eq_true]] at h2
                have h2 := okf h2
                subst h2
                exact Fin.junk (h := h) (junk := J ++ [.cells [i64 s.op, str s.name, argsv s.args, bodyv s.thn, bodyv s.els]]) (by simp) (Nat.le_refl _) hcl rfl ⟨rfl, rfl⟩
            · skip
              simp only [b1, b3, m1, m2, t0, w1, w2, d1, d2, d3, wd, w3, stmtv_eq, getJ, setJ, List.length_map, List.take_succ_cons, List.take_zero, List.drop_zero, List.drop_succ_cons, ne_eq, not_false_eq_true, Option.map_some, Option.map_none, List.map_cons, List.map_nil, Bool.not_true, Bool.not_false, decide_true, decide_false, List.getElem?_cons_zero, List.getElem?_cons_succ, ↓aw1, ↓aw2, ↓aw17, aw3, aw4, aw5, aw6, aw7, aw8, aw9, aw10, aw11, aw12, aw13, aw14, aw15, aw16, aw19, Nat.reduceLeDiff, if_true, if_false, Nat.reduceEqDiff, Nat.reduceAdd, beq_self_eq_true, beq_true, beq_false, Bool.false_eq_true]
              rw [show okS (okB r) s = false by rw [okS_ref _ (okB_nil r) s k2]; simp only [b1, b3, m1, m2, t0, Bool.not_true, Bool.not_false, Bool.true_and, Bool.false_and, Bool.and_true, Bool.and_false, Bool.or_false, Bool.false_or, Bool.or_true, Bool.true_or, if_true, if_false, Bool.false_eq_true]] at h2
              have h2 := okf h2
              subst h2
              exact Fin.junk (h := h) (junk := J ++ [.cells [i64 s.op, str s.name, argsv s.args, bodyv s.thn, bodyv s.els]]) (by simp) (Nat.le_refl _) hcl rfl ⟨rfl, rfl⟩
    · skip
      simp only [k2, w1, w2, d1, d2, d3, wd, w3, stmtv_eq, getJ, setJ, List.length_map, List.take_succ_cons, List.take_zero, List.drop_zero, List.drop_succ_cons, ne_eq, not_false_eq_true, Option.map_some, Option.map_none, List.map_cons, List.map_nil, Bool.not_true, Bool.not_false, decide_true, decide_false, List.getElem?_cons_zero, List.getElem?_cons_succ, ↓aw1, ↓aw2, ↓aw17, aw3, aw4, aw5, aw6, aw7, aw8, aw9, aw10, aw11, aw12, aw13, aw14, aw15, aw16, aw19, Nat.reduceLeDiff, if_true, if_false, Nat.reduceEqDiff, Nat.reduceAdd, beq_self_eq_true, beq_true, beq_false, Bool.false_eq_true]
      refine EvF.ret (hfn _) ?_
      cases m1 : isFn s.name
      · skip
        simp only [m1, w1, w2, d1, d2, d3, wd, w3, stmtv_eq, getJ, setJ, List.length_map, List.take_succ_cons, List.take_zero, List.drop_zero, List.drop_succ_cons, ne_eq, not_false_eq_true, Option.map_some, Option.map_none, List.map_cons, List.map_nil, Bool.not_true, Bool.not_false, decide_true, decide_false, List.getElem?_cons_zero, List.getElem?_cons_succ, ↓aw1, ↓aw2, ↓aw17, aw3, aw4, aw5, aw6, aw7, aw8, aw9, aw10, aw11, aw12, aw13, aw14, aw15, aw16, aw19, Nat.reduceLeDiff, if_true, if_false, Nat.reduceEqDiff, Nat.reduceAdd, beq_self_eq_true, beq_true, beq_false, Bool.false_eq_true]
        rw [show okS (okB r) s = false by simp only [okS, k2, m1, Bool.not_true, Bool.not_false, Bool.true_and, Bool.false_and, Bool.and_true, Bool.and_false, Bool.or_false, Bool.false_or, Bool.or_true, Bool.true_or, if_true, if_false, Bool.false_eq_true]] at h2
        have h2 := okf h2
        subst h2
        exact Fin.junk (h := h) (junk := J ++ [.cells [i64 s.op, str s.name, argsv s.args, bodyv s.thn, bodyv s.els]]) (by simp) (Nat.le_refl _) hcl rfl ⟨rfl, rfl⟩
      · skip
        cases z0 : decide (0 < s.args.length + s.thn.length + s.els.length)
        · skip
          simp only [m1, z0, w1, w2, d1, d2, d3, wd, w3, stmtv_eq, getJ, setJ, List.length_map, List.take_succ_cons, List.take_zero, List.drop_zero, List.drop_succ_cons, ne_eq, not_false_eq_true, Option.map_some, Option.map_none, List.map_cons, List.map_nil, Bool.not_true, Bool.not_false, decide_true, decide_false, List.getElem?_cons_zero, List.getElem?_cons_succ, ↓aw1, ↓aw2, ↓aw17, aw3, aw4, aw5, aw6, aw7, aw8, aw9, aw10, aw11, aw12, aw13, aw14, aw15, aw16, aw19, Nat.reduceLeDiff, if_true, if_false, Nat.reduceEqDiff, Nat.reduceAdd, beq_self_eq_true, beq_true, beq_false, Bool.false_eq_true]
          rw [show okS (okB r) s = true by simp only [okS, k2, m1, dz, z0, Bool.not_true, Bool.not_false, Bool.true_and, Bool.false_and, Bool.and_true, Bool.and_false, Bool.or_false, Bool.false_or, Bool.or_true, Bool.true_or, if_true, if_false, Bool.false_eq_true]] at h2
          exact ⟨(i + 1, J ++ [.cells [i64 s.op, str s.name, argsv s.args, bodyv s.thn, bodyv s.els]]), ⟨by simp only; omega, okt h2⟩, by simp only; omega, weak_of (by simp) (by simp [look])⟩
        · skip
          simp only [m1, z0, w1, w2, d1, d2, d3, wd, w3, stmtv_eq, getJ, setJ, List.length_map, List.take_succ_cons, List.take_zero, List.drop_zero, List.drop_succ_cons, ne_eq, not_false_eq_true, Option.map_some, Option.map_none, List.map_cons, List.map_nil, Bool.not_true, Bool.not_false, decide_true, decide_false, List.getElem?_cons_zero, List.getElem?_cons_succ, ↓aw1, ↓aw2, ↓aw17, aw3, aw4, aw5, aw6, aw7, aw8, aw9, aw10, aw11, aw12, aw13, aw14, aw15, aw16, aw19, Nat.reduceLeDiff, if_true, if_false, Nat.reduceEqDiff, Nat.reduceAdd, beq_self_eq_true, beq_true, beq_false, Bool.false_eq_true]
          rw [show okS (okB r) s = false by simp only [okS, k2, m1, dz, z0, Bool.not_true, Bool.not_false, Bool.true_and, Bool.false_and, Bool.and_true, Bool.and_false, Bool.or_false, Bool.false_or, Bool.or_true, Bool.true_or, if_true, if_false, Bool.false_eq_true]] at h2
          have h2 := okf h2
          subst h2
          exact Fin.junk (h := h) (junk := J ++ [.cells [i64 s.op, str s.name, argsv s.args, bodyv s.thn, bodyv s.els]]) (by simp) (Nat.le_refl _) hcl rfl ⟨rfl, rfl⟩
  · have e1 : decide ((i : Int) < (l.length : Int)) = false := by rw [decide_eq_false_iff_not]; omega
    rw [List.drop_eq_nil_of_le (by omega)] at h2
    simp only [List.any_nil, Bool.not_false] at h2
    subst h2
    simp only [e1, List.length_map, ne_eq, not_false_eq_true, Option.map_some, Option.map_none, List.map_cons, List.map_nil, Bool.not_true, Bool.not_false, decide_true, decide_false, List.getElem?_cons_zero, List.getElem?_cons_succ, ↓aw1, ↓aw2, ↓aw17, aw3, aw4, aw5, aw6, aw7, aw8, aw9, aw10, aw11, aw12, aw13, aw14, aw15, aw16, aw19, Nat.reduceLeDiff, if_true, if_false, Nat.reduceEqDiff, Nat.reduceAdd, beq_self_eq_true, beq_true, beq_false, Bool.false_eq_true]
    exact Fin.same hcl rfl ⟨rfl, rfl⟩

theorem rbody_ev : ∀ (r : Nat), r ≤ 40 → ∀ (l : List Stmt) (h : List AObj), wL l < 2 ^ 40 → EvR E0 23 [bodyv l, i64 ((41 - r : Nat) : Int)] h (boolv (okB r l)) := by
  intro r
  induction r with
  | zero =>
    intro _ l h hw
    refine ev_of (fn := Tryd.f23) (hs := []) Tryd.func23 c23 (by simp) fun hcl => ?_
    by_cases hl : l = []
    · subst hl
      have z0 : decide ((0 : Int) < ((0 : Nat) : Int)) = false := rfl
      simp only [ac23, List.length_nil, z0, ne_eq, not_false_eq_true, Option.map_some, Option.map_none, List.map_cons, List.map_nil, Bool.not_true, Bool.not_false, decide_true, decide_false, List.getElem?_cons_zero, List.getElem?_cons_succ, ↓aw1, ↓aw2, ↓aw17, aw3, aw4, aw5, aw6, aw7, aw8, aw9, aw10, aw11, aw12, aw13, aw14, aw15, aw16, aw19, Nat.reduceLeDiff, if_true, if_false, Nat.reduceEqDiff, Nat.reduceAdd, beq_self_eq_true, beq_true, beq_false, Bool.false_eq_true]
      refine LoopF.by (α := Unit) (fun _ => ⟨[(0, bodyv []), (1, i64 ((41 - 0 : Nat) : Int)), (5, i64 0)], h⟩) (fun _ => 0) (fun _ => True) () trivial (weak_of rfl (by simp [look])) ?_
      rintro _ _
      have z1 : decide ((0 : Int) < 0) = false := rfl
      simp only [List.length_nil, List.map_nil, z0, z1, ne_eq, not_false_eq_true, Option.map_some, Option.map_none, List.map_cons, List.map_nil, Bool.not_true, Bool.not_false, decide_true, decide_false, List.getElem?_cons_zero, List.getElem?_cons_succ, ↓aw1, ↓aw2, ↓aw17, aw3, aw4, aw5, aw6, aw7, aw8, aw9, aw10, aw11, aw12, aw13, aw14, aw15, aw16, aw19, Nat.reduceLeDiff, if_true, if_false, Nat.reduceEqDiff, Nat.reduceAdd, beq_self_eq_true, beq_true, beq_false, Bool.false_eq_true]
      exact Fin.same0 hcl rfl ⟨rfl, rfl⟩
    · have hl1 : 0 < l.length := by
        cases l with
        | nil => exact absurd rfl hl
        | cons _ _ => simp
      have z0 : decide ((0 : Int) < (l.length : Int)) = true := by rw [decide_eq_true_eq]; omega
      have dd : decide ((40 : Int) < ((41 - 0 : Nat) : Int)) = true := rfl
      have e0 : okB 0 l = false := by simp only [okB]; rw [decide_eq_false_iff_not]; omega
      simp only [ac23, List.length_map, z0, dd, ne_eq, not_false_eq_true, Option.map_some, Option.map_none, List.map_cons, List.map_nil, Bool.not_true, Bool.not_false, decide_true, decide_false, List.getElem?_cons_zero, List.getElem?_cons_succ, ↓aw1, ↓aw2, ↓aw17, aw3, aw4, aw5, aw6, aw7, aw8, aw9, aw10, aw11, aw12, aw13, aw14, aw15, aw16, aw19, Nat.reduceLeDiff, if_true, if_false, Nat.reduceEqDiff, Nat.reduceAdd, beq_self_eq_true, beq_true, beq_false, Bool.false_eq_true]
      exact Fin.same0 hcl rfl ⟨by rw [e0], rfl⟩
  | succ r ih => exact fun hr l h hw => rbody_step r (by omega) (ih (by omega)) l h hw

theorem rshaped_ev (l : List Fun) (hw : wF l < 2 ^ 40) (h : List AObj) : EvR E0 10 [funsv l] h (boolv (okFs l)) := by
  refine ev_of (fn := Tryd.f10) (hs := []) Tryd.func10 c10 (by simp) fun hcl => ?_
  have hlen := wF_len l
  unfold okFs
  generalize hR : (!l.any fun f => !okF f) = R
  have d0 : decide ((l.length : Int) ≤ 4096) = decide (l.length ≤ 4096) := by rw [decide_eq_decide]; omega
  simp only [ac10, List.length_map, ne_eq, not_false_eq_true, Option.map_some, Option.map_none, List.map_cons, List.map_nil, Bool.not_true, Bool.not_false, decide_true, decide_false, List.getElem?_cons_zero, List.getElem?_cons_succ, ↓aw1, ↓aw2, ↓aw17, aw3, aw4, aw5, aw6, aw7, aw8, aw9, aw10, aw11, aw12, aw13, aw14, aw15, aw16, aw19, Nat.reduceLeDiff, if_true, if_false, Nat.reduceEqDiff, Nat.reduceAdd, beq_self_eq_true, beq_true, beq_false, Bool.false_eq_true]
  refine LoopF.by (α := Nat) (fun i => ⟨[(0, funsv l), (3, i64 i)], h⟩) (fun i => l.length - i)
    (fun i => i ≤ l.length ∧ (!(l.drop i).any fun f => !okF f) = R) 0 ⟨by omega, by simpa using hR⟩ (weak_of rfl (by simp [look])) ?_
  rintro i ⟨h1, h2⟩
  by_cases hi : i < l.length
  · obtain ⟨s, hs⟩ : ∃ s, l[i]? = some s := ⟨_, List.getElem?_eq_getElem hi⟩
    have e1 : decide ((i : Int) < (l.length : Int)) = true := by rw [decide_eq_true_eq]; omega
    have w3 : IntKind.i64.wrap ((i : Int) + 1) = ((i + 1 : Nat) : Int) := by rw [wrap_i64] <;> omega
    have hmem := wF_mem (List.mem_of_getElem? hs)
    rw [drop_get hs, List.any_cons, Bool.not_or, Bool.not_not] at h2
    have okf : ∀ {b : Bool}, (false && b) = R → false = R := fun h => h
    have okt : ∀ {b : Bool}, (true && b) = R → b = R := fun h => h
    simp only [e1, List.length_map, ne_eq, not_false_eq_true, Option.map_some, Option.map_none, List.map_cons, List.map_nil, Bool.not_true, Bool.not_false, decide_true, decide_false, List.getElem?_cons_zero, List.getElem?_cons_succ, ↓aw1, ↓aw2, ↓aw17, aw3, aw4, aw5, aw6, aw7, aw8, aw9, aw10, aw11, aw12, aw13, aw14, aw15, aw16, aw19, Nat.reduceLeDiff, if_true, if_false, Nat.reduceEqDiff, Nat.reduceAdd, beq_self_eq_true, beq_true, beq_false, Bool.false_eq_true]
    refine Need.mk ⟨by omega, by first | omega | (simp; omega)⟩ (Elem.recs (map_get funv l i s hs) ⟨rfl, rfl⟩ ?_)
    simp only [funv, List.drop_zero, List.drop_succ_cons, ne_eq, not_false_eq_true, Option.map_some, Option.map_none, List.map_cons, List.map_nil, Bool.not_true, Bool.not_false, decide_true, decide_false, List.getElem?_cons_zero, List.getElem?_cons_succ, ↓aw1, ↓aw2, ↓aw17, aw3, aw4, aw5, aw6, aw7, aw8, aw9, aw10, aw11, aw12, aw13, aw14, aw15, aw16, aw19, Nat.reduceLeDiff, if_true, if_false, Nat.reduceEqDiff, Nat.reduceAdd, beq_self_eq_true, beq_true, beq_false, Bool.false_eq_true]
    refine EvF.ret (rfunction_ev s.name h (by omega)) ?_
    cases m1 : isFn s.name
    · simp only [ne_eq, not_false_eq_true, Option.map_some, Option.map_none, List.map_cons, List.map_nil, Bool.not_true, Bool.not_false, decide_true, decide_false, List.getElem?_cons_zero, List.getElem?_cons_succ, ↓aw1, ↓aw2, ↓aw17, aw3, aw4, aw5, aw6, aw7, aw8, aw9, aw10, aw11, aw12, aw13, aw14, aw15, aw16, aw19, Nat.reduceLeDiff, if_true, if_false, Nat.reduceEqDiff, Nat.reduceAdd, beq_self_eq_true, beq_true, beq_false, Bool.false_eq_true]
      rw [show okF s = false by simp only [okF, m1, Bool.false_and]] at h2
      have h2 := okf h2
      subst h2
      exact Fin.same0 hcl rfl ⟨by simp only [Bool.and_false], rfl⟩
    · simp only [List.length_map, ne_eq, not_false_eq_true, Option.map_some, Option.map_none, List.map_cons, List.map_nil, Bool.not_true, Bool.not_false, decide_true, decide_false, List.getElem?_cons_zero, List.getElem?_cons_succ, ↓aw1, ↓aw2, ↓aw17, aw3, aw4, aw5, aw6, aw7, aw8, aw9, aw10, aw11, aw12, aw13, aw14, aw15, aw16, aw19, Nat.reduceLeDiff, if_true, if_false, Nat.reduceEqDiff, Nat.reduceAdd, beq_self_eq_true, beq_true, beq_false, Bool.false_eq_true]
      refine Need.mk ⟨by omega, by first | omega | (simp; omega)⟩ (Elem.recs (map_get funv l i s hs) ⟨rfl, rfl⟩ ?_)
      simp only [funv, List.drop_zero, List.drop_succ_cons, ne_eq, not_false_eq_true, Option.map_some, Option.map_none, List.map_cons, List.map_nil, Bool.not_true, Bool.not_false, decide_true, decide_false, List.getElem?_cons_zero, List.getElem?_cons_succ, ↓aw1, ↓aw2, ↓aw17, aw3, aw4, aw5, aw6, aw7, aw8, aw9, aw10, aw11, aw12, aw13, aw14, aw15, aw16, aw19, Nat.reduceLeDiff, if_true, if_false, Nat.reduceEqDiff, Nat.reduceAdd, beq_self_eq_true, beq_true, beq_false, Bool.false_eq_true]
      refine EvF.ret (rbody_ev 40 (Nat.le_refl _) s.body h (by omega)) ?_
      cases m2 : okB 40 s.body
      · simp only [ne_eq, not_false_eq_true, Option.map_some, Option.map_none, List.map_cons, List.map_nil, Bool.not_true, Bool.not_false, decide_true, decide_false, List.getElem?_cons_zero, List.getElem?_cons_succ, ↓aw1, ↓aw2, ↓aw17, aw3, aw4, aw5, aw6, aw7, aw8, aw9, aw10, aw11, aw12, aw13, aw14, aw15, aw16, aw19, Nat.reduceLeDiff, if_true, if_false, Nat.reduceEqDiff, Nat.reduceAdd, beq_self_eq_true, beq_true, beq_false, Bool.false_eq_true]
        rw [show okF s = false by simp only [okF, m1, m2, Bool.and_false]] at h2
        have h2 := okf h2
        subst h2
        exact Fin.same0 hcl rfl ⟨by simp only [Bool.and_false], rfl⟩
      · simp only [w3, ne_eq, not_false_eq_true, Option.map_some, Option.map_none, List.map_cons, List.map_nil, Bool.not_true, Bool.not_false, decide_true, decide_false, List.getElem?_cons_zero, List.getElem?_cons_succ, ↓aw1, ↓aw2, ↓aw17, aw3, aw4, aw5, aw6, aw7, aw8, aw9, aw10, aw11, aw12, aw13, aw14, aw15, aw16, aw19, Nat.reduceLeDiff, if_true, if_false, Nat.reduceEqDiff, Nat.reduceAdd, beq_self_eq_true, beq_true, beq_false, Bool.false_eq_true]
        rw [show okF s = true by simp only [okF, m1, m2, Bool.and_true]] at h2
        exact ⟨i + 1, ⟨by omega, okt h2⟩, by omega, weak_of rfl (by simp [look])⟩
  · have e1 : decide ((i : Int) < (l.length : Int)) = false := by rw [decide_eq_false_iff_not]; omega
    rw [List.drop_eq_nil_of_le (by omega)] at h2
    simp only [List.any_nil, Bool.not_false] at h2
    subst h2
    simp only [e1, List.length_map, d0, ne_eq, not_false_eq_true, Option.map_some, Option.map_none, List.map_cons, List.map_nil, Bool.not_true, Bool.not_false, decide_true, decide_false, List.getElem?_cons_zero, List.getElem?_cons_succ, ↓aw1, ↓aw2, ↓aw17, aw3, aw4, aw5, aw6, aw7, aw8, aw9, aw10, aw11, aw12, aw13, aw14, aw15, aw16, aw19, Nat.reduceLeDiff, if_true, if_false, Nat.reduceEqDiff, Nat.reduceAdd, beq_self_eq_true, beq_true, beq_false, Bool.false_eq_true]
    exact Fin.same0 hcl rfl ⟨by simp only [Bool.and_true], rfl⟩
end Go.Abs.Fr
