/- Whether a fragment is shaped: frag's answer. -/
import Derived.Test.YtgbedffflggenaaDoorFrT
set_option linter.all false
namespace Go.Abs.Fr
open Go Go.Abs Go.Proofs
set_option linter.unusedSimpArgs false
set_option maxRecDepth 100000

/-! ### How much there is, characters too -/
def wA : List Arg → Nat
  | [] => 0
  | a :: l => 1 + a.s.size + wA l
mutual
def wS : Stmt → Nat
  | .mk _ n a t e => 1 + n.size + wA a + wL t + wL e
def wL : List Stmt → Nat
  | [] => 0
  | s :: l => wS s + wL l
end
theorem wS_eq (s : Stmt) : wS s = 1 + s.name.size + wA s.args + wL s.thn + wL s.els := by cases s; simp only [wS]; rfl
theorem wL_mem : ∀ {l : List Stmt} {s : Stmt}, s ∈ l → wS s ≤ wL l
  | x :: l, s, h => by
    rcases List.mem_cons.1 h with rfl | h
    · simp only [wL]; omega
    · have := wL_mem h; simp only [wL]; omega
theorem wL_len : ∀ (l : List Stmt), l.length ≤ wL l
  | [] => by simp [wL]
  | s :: l => by have := wL_len l; have := wS_eq s; simp only [wL, List.length_cons]; omega
theorem wA_len : ∀ (l : List Arg), l.length ≤ wA l
  | [] => by simp [wA]
  | s :: l => by have := wA_len l; simp only [wA, List.length_cons]; omega
theorem wA_mem {l : List Arg} {a : Arg} (h : a ∈ l) : a.s.size < wA l := by
  induction l with
  | nil => cases h
  | cons x l ih =>
    simp only [wA]
    rcases List.mem_cons.1 h with h | h
    · rw [h]; omega
    · have := ih h; omega
def wF : List Fun → Nat
  | [] => 0
  | f :: l => 1 + f.name.size + wL f.body + wF l
theorem wF_len : ∀ (l : List Fun), l.length ≤ wF l
  | [] => by simp [wF]
  | s :: l => by have := wF_len l; simp only [wF, List.length_cons]; omega
theorem wF_mem : ∀ {l : List Fun} {f : Fun}, f ∈ l → 1 + f.name.size + wL f.body ≤ wF l
  | x :: l, s, h => by
    rcases List.mem_cons.1 h with rfl | h
    · simp only [wF]; omega
    · have := wF_mem h; simp only [wF]; omega
mutual
theorem szS_wS : ∀ (s : Stmt), szS s ≤ wS s
  | .mk o n a t e => by have := szL_wL t; have := szL_wL e; simp only [szS, wS]; omega
theorem szL_wL : ∀ (l : List Stmt), szL l ≤ wL l
  | [] => by simp [szL]
  | s :: l => by have := szS_wS s; have := szL_wL l; simp only [szL, wL]; omega
end
theorem szF_wF : ∀ (l : List Fun), szF l ≤ wF l
  | [] => by simp [szF]
  | f :: l => by have := szF_wF l; have := szL_wL f.body; simp only [szF, wF]; omega

/-! ### Shaped -/
def okArg (a : Arg) : Bool := if a.text then decide (a.n = 0) else decide (a.s = ⟨#[]⟩) && !decide (a.n = -9223372036854775808)
def okS (B : List Stmt → Bool) (s : Stmt) : Bool :=
  if decide (s.op = 2) then isFn s.name && decide (s.args.length + s.thn.length + s.els.length = 0)
  else if !isMe s.name || (decide (4096 < s.args.length) || s.args.any fun a => !okArg a) then false
  else if decide (s.op = 1) then decide (s.thn.length + s.els.length = 0)
  else if decide (s.op = 4) then decide (s.els.length = 0) && B s.thn
  else decide (s.op = 3) && (B s.thn && B s.els)
def okB : Nat → List Stmt → Bool
  | 0, l => decide (l.length = 0)
  | r + 1, l => !l.any fun s => !okS (okB r) s
def okF (f : Fun) : Bool := isFn f.name && okB 40 f.body
def okFs (l : List Fun) : Bool := decide (l.length ≤ 4096) && !l.any fun f => !okF f

theorem arg_ev (a : Arg) (h : List AObj) : EvR E0 57 [argv a] h (boolv (okArg a)) := by
  refine ev_of (fn := Tryd.f57) (hs := []) Tryd.func57 c57 (by simp) fun hcl => ?_
  obtain ⟨t, n, s, hn⟩ := a
  simp only [ac57, argv, last_obj, List.drop_zero, List.drop_succ_cons, ne_eq, not_false_eq_true, Option.map_some, Option.map_none, List.map_cons, List.map_nil, Bool.not_true, Bool.not_false, decide_true, decide_false, List.getElem?_cons_zero, List.getElem?_cons_succ, ↓aw1, ↓aw2, ↓aw17, aw3, aw4, aw5, aw6, aw7, aw8, aw9, aw10, aw11, aw12, aw13, aw14, aw15, aw16, aw19, Nat.reduceLeDiff, if_true, if_false, Nat.reduceEqDiff, Nat.reduceAdd, beq_self_eq_true, beq_true, beq_false, Bool.false_eq_true]
  cases t
  · cases hs : decide (s = ⟨#[]⟩)
    · simp only [hs, last_obj, ne_eq, not_false_eq_true, Option.map_some, Option.map_none, List.map_cons, List.map_nil, Bool.not_true, Bool.not_false, decide_true, decide_false, List.getElem?_cons_zero, List.getElem?_cons_succ, ↓aw1, ↓aw2, ↓aw17, aw3, aw4, aw5, aw6, aw7, aw8, aw9, aw10, aw11, aw12, aw13, aw14, aw15, aw16, aw19, Nat.reduceLeDiff, if_true, if_false, Nat.reduceEqDiff, Nat.reduceAdd, beq_self_eq_true, beq_true, beq_false, Bool.false_eq_true]
      exact Fin.same hcl rfl ⟨by simp [okArg, hs], rfl⟩
    · simp only [hs, last_obj, ne_eq, not_false_eq_true, Option.map_some, Option.map_none, List.map_cons, List.map_nil, Bool.not_true, Bool.not_false, decide_true, decide_false, List.getElem?_cons_zero, List.getElem?_cons_succ, ↓aw1, ↓aw2, ↓aw17, aw3, aw4, aw5, aw6, aw7, aw8, aw9, aw10, aw11, aw12, aw13, aw14, aw15, aw16, aw19, Nat.reduceLeDiff, if_true, if_false, Nat.reduceEqDiff, Nat.reduceAdd, beq_self_eq_true, beq_true, beq_false, Bool.false_eq_true]
      exact Fin.same hcl rfl ⟨by simp [okArg, hs], rfl⟩
  · simp only [last_obj, ne_eq, not_false_eq_true, Option.map_some, Option.map_none, List.map_cons, List.map_nil, Bool.not_true, Bool.not_false, decide_true, decide_false, List.getElem?_cons_zero, List.getElem?_cons_succ, ↓aw1, ↓aw2, ↓aw17, aw3, aw4, aw5, aw6, aw7, aw8, aw9, aw10, aw11, aw12, aw13, aw14, aw15, aw16, aw19, Nat.reduceLeDiff, if_true, if_false, Nat.reduceEqDiff, Nat.reduceAdd, beq_self_eq_true, beq_true, beq_false, Bool.false_eq_true]
    exact Fin.same hcl rfl ⟨by simp [okArg], rfl⟩

theorem argnot_ev (a : Arg) (h : List AObj) : EvR E0 56 [argv a] h (boolv (!okArg a)) := by
  refine ev_of (fn := Tryd.f56) (hs := []) Tryd.func56 c56 (by simp) fun hcl => ?_
  have ha := arg_ev a
  simp only [argv] at ha
  simp only [ac56, argv, last_obj, List.take_succ_cons, List.take_zero, List.drop_zero, List.drop_succ_cons, ne_eq, not_false_eq_true, Option.map_some, Option.map_none, List.map_cons, List.map_nil, Bool.not_true, Bool.not_false, decide_true, decide_false, List.getElem?_cons_zero, List.getElem?_cons_succ, ↓aw1, ↓aw2, ↓aw17, aw3, aw4, aw5, aw6, aw7, aw8, aw9, aw10, aw11, aw12, aw13, aw14, aw15, aw16, aw19, Nat.reduceLeDiff, if_true, if_false, Nat.reduceEqDiff, Nat.reduceAdd, beq_self_eq_true, beq_true, beq_false, Bool.false_eq_true]
  refine EvF.ret (ha _) ?_
  simp only [ne_eq, not_false_eq_true, Option.map_some, Option.map_none, List.map_cons, List.map_nil, Bool.not_true, Bool.not_false, decide_true, decide_false, List.getElem?_cons_zero, List.getElem?_cons_succ, ↓aw1, ↓aw2, ↓aw17, aw3, aw4, aw5, aw6, aw7, aw8, aw9, aw10, aw11, aw12, aw13, aw14, aw15, aw16, aw19, Nat.reduceLeDiff, if_true, if_false, Nat.reduceEqDiff, Nat.reduceAdd, beq_self_eq_true, beq_true, beq_false, Bool.false_eq_true]
  exact Fin.same hcl rfl ⟨rfl, rfl⟩

set_option maxHeartbeats 1000000 in
theorem stmt_ev (r : Nat) (hr : r < 2 ^ 60) (ih : ∀ (l : List Stmt) (h : List AObj), wL l < 2 ^ 40 → EvR E0 21 [bodyv l, i64 r] h (boolv (okB r l)))
    (s : Stmt) (hs : wS s < 2 ^ 40) (h : List AObj) : EvR E0 40 [stmtv s, i64 ((r + 1 : Nat) : Int)] h (boolv (okS (okB r) s)) := by
  refine ev_of (fn := Tryd.f40) (hs := []) Tryd.func40 c40 (by simp) fun hcl => ?_
  have hw := wS_eq s
  have ha := wA_len s.args
  have ht := wL_len s.thn
  have he := wL_len s.els
  have hfn := fun h => function_ev s.name h (by omega)
  have hme := fun h => method_ev s.name h (by omega)
  have hany := fun h => arg_any s.args 56 [] (fun a => !okArg a) h (by omega) (fun a _ => argnot_ev a h)
  have hthn := fun h => ih s.thn h (by omega)
  have hels := fun h => ih s.els h (by omega)
  have w1 : IntKind.i64.wrap ((s.args.length : Int) + (s.thn.length : Int)) = ((s.args.length + s.thn.length : Nat) : Int) := by rw [wrap_i64] <;> omega
  have w2 : IntKind.i64.wrap (((s.args.length + s.thn.length : Nat) : Int) + (s.els.length : Int)) = ((s.args.length + s.thn.length + s.els.length : Nat) : Int) := by rw [wrap_i64] <;> omega
  have w3 : IntKind.i64.wrap ((s.thn.length : Int) + (s.els.length : Int)) = ((s.thn.length + s.els.length : Nat) : Int) := by rw [wrap_i64] <;> omega
  have w4 : IntKind.i64.wrap (((r + 1 : Nat) : Int) - 1) = (r : Int) := by rw [wrap_i64] <;> omega
  have d1 : decide (((s.args.length + s.thn.length + s.els.length : Nat) : Int) = 0) = decide (s.args.length + s.thn.length + s.els.length = 0) := by rw [decide_eq_decide]; omega
  have d2 : decide (((s.thn.length + s.els.length : Nat) : Int) = 0) = decide (s.thn.length + s.els.length = 0) := by rw [decide_eq_decide]; omega
  have d3 : decide ((s.els.length : Int) = 0) = decide (s.els.length = 0) := by rw [decide_eq_decide]; omega
  have d4 : decide ((4096 : Int) < (s.args.length : Int)) = decide (4096 < s.args.length) := by rw [decide_eq_decide]; omega
  simp only [ac40, stmtv_eq, last_obj, List.drop_zero, List.drop_succ_cons, ne_eq, not_false_eq_true, Option.map_some, Option.map_none, List.map_cons, List.map_nil, Bool.not_true, Bool.not_false, decide_true, decide_false, List.getElem?_cons_zero, List.getElem?_cons_succ, ↓aw1, ↓aw2, ↓aw17, aw3, aw4, aw5, aw6, aw7, aw8, aw9, aw10, aw11, aw12, aw13, aw14, aw15, aw16, aw19, Nat.reduceLeDiff, if_true, if_false, Nat.reduceEqDiff, Nat.reduceAdd, beq_self_eq_true, beq_true, beq_false, Bool.false_eq_true]
  cases k2 : decide (s.op = 2)
  · simp only [k2, last_obj, List.drop_zero, List.drop_succ_cons, ne_eq, not_false_eq_true, Option.map_some, Option.map_none, List.map_cons, List.map_nil, Bool.not_true, Bool.not_false, decide_true, decide_false, List.getElem?_cons_zero, List.getElem?_cons_succ, ↓aw1, ↓aw2, ↓aw17, aw3, aw4, aw5, aw6, aw7, aw8, aw9, aw10, aw11, aw12, aw13, aw14, aw15, aw16, aw19, Nat.reduceLeDiff, if_true, if_false, Nat.reduceEqDiff, Nat.reduceAdd, beq_self_eq_true, beq_true, beq_false, Bool.false_eq_true]
    refine EvF.ret (hme _) ?_
    cases m1 : isMe s.name
    · simp only [ne_eq, not_false_eq_true, Option.map_some, Option.map_none, List.map_cons, List.map_nil, Bool.not_true, Bool.not_false, decide_true, decide_false, List.getElem?_cons_zero, List.getElem?_cons_succ, ↓aw1, ↓aw2, ↓aw17, aw3, aw4, aw5, aw6, aw7, aw8, aw9, aw10, aw11, aw12, aw13, aw14, aw15, aw16, aw19, Nat.reduceLeDiff, if_true, if_false, Nat.reduceEqDiff, Nat.reduceAdd, beq_self_eq_true, beq_true, beq_false, Bool.false_eq_true]
      exact Fin.same hcl rfl ⟨by simp only [okS, k2, m1, Bool.not_true, Bool.not_false, Bool.true_and, Bool.false_and, Bool.and_true, Bool.and_false, Bool.or_false, Bool.false_or, Bool.or_true, Bool.true_or, if_true, if_false, Bool.false_eq_true], rfl⟩
    · cases m2 : decide (4096 < s.args.length)
      · simp only [last_obj, List.length_map, d4, m2, List.drop_zero, List.drop_succ_cons, ne_eq, not_false_eq_true, Option.map_some, Option.map_none, List.map_cons, List.map_nil, Bool.not_true, Bool.not_false, decide_true, decide_false, List.getElem?_cons_zero, List.getElem?_cons_succ, ↓aw1, ↓aw2, ↓aw17, aw3, aw4, aw5, aw6, aw7, aw8, aw9, aw10, aw11, aw12, aw13, aw14, aw15, aw16, aw19, Nat.reduceLeDiff, if_true, if_false, Nat.reduceEqDiff, Nat.reduceAdd, beq_self_eq_true, beq_true, beq_false, Bool.false_eq_true]
        refine EvF.ret (hany _) ?_
        cases m3 : s.args.any fun a => !okArg a
        · simp only [last_obj, List.drop_zero, List.drop_succ_cons, ne_eq, not_false_eq_true, Option.map_some, Option.map_none, List.map_cons, List.map_nil, Bool.not_true, Bool.not_false, decide_true, decide_false, List.getElem?_cons_zero, List.getElem?_cons_succ, ↓aw1, ↓aw2, ↓aw17, aw3, aw4, aw5, aw6, aw7, aw8, aw9, aw10, aw11, aw12, aw13, aw14, aw15, aw16, aw19, Nat.reduceLeDiff, if_true, if_false, Nat.reduceEqDiff, Nat.reduceAdd, beq_self_eq_true, beq_true, beq_false, Bool.false_eq_true]
          cases k1 : decide (s.op = 1)
          · cases k4 : decide (s.op = 4)
            · cases k3 : decide (s.op = 3)
              · simp only [last_obj, k1, k3, k4, List.drop_zero, List.drop_succ_cons, ne_eq, not_false_eq_true, Option.map_some, Option.map_none, List.map_cons, List.map_nil, Bool.not_true, Bool.not_false, decide_true, decide_false, List.getElem?_cons_zero, List.getElem?_cons_succ, ↓aw1, ↓aw2, ↓aw17, aw3, aw4, aw5, aw6, aw7, aw8, aw9, aw10, aw11, aw12, aw13, aw14, aw15, aw16, aw19, Nat.reduceLeDiff, if_true, if_false, Nat.reduceEqDiff, Nat.reduceAdd, beq_self_eq_true, beq_true, beq_false, Bool.false_eq_true]
                exact Fin.same hcl rfl ⟨by simp only [okS, k2, m1, m2, m3, k1, k3, k4, Bool.not_true, Bool.not_false, Bool.true_and, Bool.false_and, Bool.and_true, Bool.and_false, Bool.or_false, Bool.false_or, Bool.or_true, Bool.true_or, if_true, if_false, Bool.false_eq_true], rfl⟩
              · simp only [last_obj, k1, k3, k4, w4, List.drop_zero, List.drop_succ_cons, ne_eq, not_false_eq_true, Option.map_some, Option.map_none, List.map_cons, List.map_nil, Bool.not_true, Bool.not_false, decide_true, decide_false, List.getElem?_cons_zero, List.getElem?_cons_succ, ↓aw1, ↓aw2, ↓aw17, aw3, aw4, aw5, aw6, aw7, aw8, aw9, aw10, aw11, aw12, aw13, aw14, aw15, aw16, aw19, Nat.reduceLeDiff, if_true, if_false, Nat.reduceEqDiff, Nat.reduceAdd, beq_self_eq_true, beq_true, beq_false, Bool.false_eq_true]
                refine EvF.ret (hthn _) ?_
                cases b1 : okB r s.thn
                · simp only [last_obj, w4, List.drop_zero, List.drop_succ_cons, ne_eq, not_false_eq_true, Option.map_some, Option.map_none, List.map_cons, List.map_nil, Bool.not_true, Bool.not_false, decide_true, decide_false, List.getElem?_cons_zero, List.getElem?_cons_succ, ↓aw1, ↓aw2, ↓aw17, aw3, aw4, aw5, aw6, aw7, aw8, aw9, aw10, aw11, aw12, aw13, aw14, aw15, aw16, aw19, Nat.reduceLeDiff, if_true, if_false, Nat.reduceEqDiff, Nat.reduceAdd, beq_self_eq_true, beq_true, beq_false, Bool.false_eq_true]
                  exact Fin.same hcl rfl ⟨by simp only [okS, k2, m1, m2, m3, k1, k3, k4, b1, Bool.not_true, Bool.not_false, Bool.true_and, Bool.false_and, Bool.and_true, Bool.and_false, Bool.or_false, Bool.false_or, Bool.or_true, Bool.true_or, if_true, if_false, Bool.false_eq_true], rfl⟩
                · simp only [last_obj, w4, List.drop_zero, List.drop_succ_cons, ne_eq, not_false_eq_true, Option.map_some, Option.map_none, List.map_cons, List.map_nil, Bool.not_true, Bool.not_false, decide_true, decide_false, List.getElem?_cons_zero, List.getElem?_cons_succ, ↓aw1, ↓aw2, ↓aw17, aw3, aw4, aw5, aw6, aw7, aw8, aw9, aw10, aw11, aw12, aw13, aw14, aw15, aw16, aw19, Nat.reduceLeDiff, if_true, if_false, Nat.reduceEqDiff, Nat.reduceAdd, beq_self_eq_true, beq_true, beq_false, Bool.false_eq_true]
                  refine EvF.ret (hels _) ?_
                  simp only [ne_eq, not_false_eq_true, Option.map_some, Option.map_none, List.map_cons, List.map_nil, Bool.not_true, Bool.not_false, decide_true, decide_false, List.getElem?_cons_zero, List.getElem?_cons_succ, ↓aw1, ↓aw2, ↓aw17, aw3, aw4, aw5, aw6, aw7, aw8, aw9, aw10, aw11, aw12, aw13, aw14, aw15, aw16, aw19, Nat.reduceLeDiff, if_true, if_false, Nat.reduceEqDiff, Nat.reduceAdd, beq_self_eq_true, beq_true, beq_false, Bool.false_eq_true]
                  exact Fin.same hcl rfl ⟨by simp only [okS, k2, m1, m2, m3, k1, k3, k4, b1, Bool.not_true, Bool.not_false, Bool.true_and, Bool.false_and, Bool.and_true, Bool.and_false, Bool.or_false, Bool.false_or, Bool.or_true, Bool.true_or, if_true, if_false, Bool.false_eq_true], rfl⟩
            · cases e0 : decide (s.els.length = 0)
              · simp only [last_obj, k1, k4, d3, e0, List.length_map, List.drop_zero, List.drop_succ_cons, ne_eq, not_false_eq_true, Option.map_some, Option.map_none, List.map_cons, List.map_nil, Bool.not_true, Bool.not_false, decide_true, decide_false, List.getElem?_cons_zero, List.getElem?_cons_succ, ↓aw1, ↓aw2, ↓aw17, aw3, aw4, aw5, aw6, aw7, aw8, aw9, aw10, aw11, aw12, aw13, aw14, aw15, aw16, aw19, Nat.reduceLeDiff, if_true, if_false, Nat.reduceEqDiff, Nat.reduceAdd, beq_self_eq_true, beq_true, beq_false, Bool.false_eq_true]
                exact Fin.same hcl rfl ⟨by simp only [okS, k2, m1, m2, m3, k1, k4, e0, Bool.not_true, Bool.not_false, Bool.true_and, Bool.false_and, Bool.and_true, Bool.and_false, Bool.or_false, Bool.false_or, Bool.or_true, Bool.true_or, if_true, if_false, Bool.false_eq_true], rfl⟩
              · simp only [last_obj, k1, k4, d3, e0, w4, List.length_map, List.drop_zero, List.drop_succ_cons, ne_eq, not_false_eq_true, Option.map_some, Option.map_none, List.map_cons, List.map_nil, Bool.not_true, Bool.not_false, decide_true, decide_false, List.getElem?_cons_zero, List.getElem?_cons_succ, ↓aw1, ↓aw2, ↓aw17, aw3, aw4, aw5, aw6, aw7, aw8, aw9, aw10, aw11, aw12, aw13, aw14, aw15, aw16, aw19, Nat.reduceLeDiff, if_true, if_false, Nat.reduceEqDiff, Nat.reduceAdd, beq_self_eq_true, beq_true, beq_false, Bool.false_eq_true]
                refine EvF.ret (hthn _) ?_
                simp only [ne_eq, not_false_eq_true, Option.map_some, Option.map_none, List.map_cons, List.map_nil, Bool.not_true, Bool.not_false, decide_true, decide_false, List.getElem?_cons_zero, List.getElem?_cons_succ, ↓aw1, ↓aw2, ↓aw17, aw3, aw4, aw5, aw6, aw7, aw8, aw9, aw10, aw11, aw12, aw13, aw14, aw15, aw16, aw19, Nat.reduceLeDiff, if_true, if_false, Nat.reduceEqDiff, Nat.reduceAdd, beq_self_eq_true, beq_true, beq_false, Bool.false_eq_true]
                exact Fin.same hcl rfl ⟨by simp only [okS, k2, m1, m2, m3, k1, k4, e0, Bool.not_true, Bool.not_false, Bool.true_and, Bool.false_and, Bool.and_true, Bool.and_false, Bool.or_false, Bool.false_or, Bool.or_true, Bool.true_or, if_true, if_false, Bool.false_eq_true], rfl⟩
          · simp only [last_obj, k1, w3, d2, List.length_map, List.drop_zero, List.drop_succ_cons, ne_eq, not_false_eq_true, Option.map_some, Option.map_none, List.map_cons, List.map_nil, Bool.not_true, Bool.not_false, decide_true, decide_false, List.getElem?_cons_zero, List.getElem?_cons_succ, ↓aw1, ↓aw2, ↓aw17, aw3, aw4, aw5, aw6, aw7, aw8, aw9, aw10, aw11, aw12, aw13, aw14, aw15, aw16, aw19, Nat.reduceLeDiff, if_true, if_false, Nat.reduceEqDiff, Nat.reduceAdd, beq_self_eq_true, beq_true, beq_false, Bool.false_eq_true]
            exact Fin.same hcl rfl ⟨by simp only [okS, k2, m1, m2, m3, k1, Bool.not_true, Bool.not_false, Bool.true_and, Bool.false_and, Bool.and_true, Bool.and_false, Bool.or_false, Bool.false_or, Bool.or_true, Bool.true_or, if_true, if_false, Bool.false_eq_true], rfl⟩
        · simp only [ne_eq, not_false_eq_true, Option.map_some, Option.map_none, List.map_cons, List.map_nil, Bool.not_true, Bool.not_false, decide_true, decide_false, List.getElem?_cons_zero, List.getElem?_cons_succ, ↓aw1, ↓aw2, ↓aw17, aw3, aw4, aw5, aw6, aw7, aw8, aw9, aw10, aw11, aw12, aw13, aw14, aw15, aw16, aw19, Nat.reduceLeDiff, if_true, if_false, Nat.reduceEqDiff, Nat.reduceAdd, beq_self_eq_true, beq_true, beq_false, Bool.false_eq_true]
          exact Fin.same hcl rfl ⟨by simp only [okS, k2, m1, m2, m3, Bool.not_true, Bool.not_false, Bool.true_and, Bool.false_and, Bool.and_true, Bool.and_false, Bool.or_false, Bool.false_or, Bool.or_true, Bool.true_or, if_true, if_false, Bool.false_eq_true], rfl⟩
      · simp only [last_obj, List.length_map, d4, m2, List.drop_zero, List.drop_succ_cons, ne_eq, not_false_eq_true, Option.map_some, Option.map_none, List.map_cons, List.map_nil, Bool.not_true, Bool.not_false, decide_true, decide_false, List.getElem?_cons_zero, List.getElem?_cons_succ, ↓aw1, ↓aw2, ↓aw17, aw3, aw4, aw5, aw6, aw7, aw8, aw9, aw10, aw11, aw12, aw13, aw14, aw15, aw16, aw19, Nat.reduceLeDiff, if_true, if_false, Nat.reduceEqDiff, Nat.reduceAdd, beq_self_eq_true, beq_true, beq_false, Bool.false_eq_true]
        exact Fin.same hcl rfl ⟨by simp only [okS, k2, m1, m2, Bool.not_true, Bool.not_false, Bool.true_and, Bool.false_and, Bool.and_true, Bool.and_false, Bool.or_false, Bool.false_or, Bool.or_true, Bool.true_or, if_true, if_false, Bool.false_eq_true], rfl⟩
  · simp only [k2, last_obj, List.drop_zero, List.drop_succ_cons, ne_eq, not_false_eq_true, Option.map_some, Option.map_none, List.map_cons, List.map_nil, Bool.not_true, Bool.not_false, decide_true, decide_false, List.getElem?_cons_zero, List.getElem?_cons_succ, ↓aw1, ↓aw2, ↓aw17, aw3, aw4, aw5, aw6, aw7, aw8, aw9, aw10, aw11, aw12, aw13, aw14, aw15, aw16, aw19, Nat.reduceLeDiff, if_true, if_false, Nat.reduceEqDiff, Nat.reduceAdd, beq_self_eq_true, beq_true, beq_false, Bool.false_eq_true]
    refine EvF.ret (hfn _) ?_
    cases m1 : isFn s.name
    · simp only [ne_eq, not_false_eq_true, Option.map_some, Option.map_none, List.map_cons, List.map_nil, Bool.not_true, Bool.not_false, decide_true, decide_false, List.getElem?_cons_zero, List.getElem?_cons_succ, ↓aw1, ↓aw2, ↓aw17, aw3, aw4, aw5, aw6, aw7, aw8, aw9, aw10, aw11, aw12, aw13, aw14, aw15, aw16, aw19, Nat.reduceLeDiff, if_true, if_false, Nat.reduceEqDiff, Nat.reduceAdd, beq_self_eq_true, beq_true, beq_false, Bool.false_eq_true]
      exact Fin.same hcl rfl ⟨by simp only [okS, k2, m1, Bool.not_true, Bool.not_false, Bool.true_and, Bool.false_and, Bool.and_true, Bool.and_false, Bool.or_false, Bool.false_or, Bool.or_true, Bool.true_or, if_true, if_false, Bool.false_eq_true], rfl⟩
    · simp only [last_obj, List.length_map, w1, w2, d1, List.drop_zero, List.drop_succ_cons, ne_eq, not_false_eq_true, Option.map_some, Option.map_none, List.map_cons, List.map_nil, Bool.not_true, Bool.not_false, decide_true, decide_false, List.getElem?_cons_zero, List.getElem?_cons_succ, ↓aw1, ↓aw2, ↓aw17, aw3, aw4, aw5, aw6, aw7, aw8, aw9, aw10, aw11, aw12, aw13, aw14, aw15, aw16, aw19, Nat.reduceLeDiff, if_true, if_false, Nat.reduceEqDiff, Nat.reduceAdd, beq_self_eq_true, beq_true, beq_false, Bool.false_eq_true]
      exact Fin.same hcl rfl ⟨by simp only [okS, k2, m1, Bool.not_true, Bool.not_false, Bool.true_and, Bool.false_and, Bool.and_true, Bool.and_false, Bool.or_false, Bool.false_or, Bool.or_true, Bool.true_or, if_true, if_false, Bool.false_eq_true], rfl⟩

theorem stmtnot_ev (r : Nat) (hr : r < 2 ^ 60) (ih : ∀ (l : List Stmt) (h : List AObj), wL l < 2 ^ 40 → EvR E0 21 [bodyv l, i64 r] h (boolv (okB r l)))
    (s : Stmt) (hs : wS s < 2 ^ 40) (h : List AObj) (id : Nat) (hid : h[id]? = some (.cells [i64 ((r + 1 : Nat) : Int)])) : EvR E0 39 [stmtv s, .ref id 0] h (boolv (!okS (okB r) s)) := by
  refine ev_of (fn := Tryd.f39) (hs := []) Tryd.func39 c39 (by simp) fun hcl => ?_
  have hst := stmt_ev r hr ih s hs
  have hidl := (List.getElem?_eq_some_iff.1 hid).1
  have hid' : ∀ o, (h ++ [o])[id]? = some (.cells [i64 ((r + 1 : Nat) : Int)]) := fun o => by rw [List.getElem?_append_left hidl]; exact hid
  simp only [stmtv_eq] at hst
  simp only [ac39, stmtv_eq, last_obj, hid', List.take_succ_cons, List.take_zero, List.drop_zero, List.drop_succ_cons, ne_eq, not_false_eq_true, Option.map_some, Option.map_none, List.map_cons, List.map_nil, Bool.not_true, Bool.not_false, decide_true, decide_false, List.getElem?_cons_zero, List.getElem?_cons_succ, ↓aw1, ↓aw2, ↓aw17, aw3, aw4, aw5, aw6, aw7, aw8, aw9, aw10, aw11, aw12, aw13, aw14, aw15, aw16, aw19, Nat.reduceLeDiff, if_true, if_false, Nat.reduceEqDiff, Nat.reduceAdd, beq_self_eq_true, beq_true, beq_false, Bool.false_eq_true]
  refine EvF.ret (hst _) ?_
  simp only [ne_eq, not_false_eq_true, Option.map_some, Option.map_none, List.map_cons, List.map_nil, Bool.not_true, Bool.not_false, decide_true, decide_false, List.getElem?_cons_zero, List.getElem?_cons_succ, ↓aw1, ↓aw2, ↓aw17, aw3, aw4, aw5, aw6, aw7, aw8, aw9, aw10, aw11, aw12, aw13, aw14, aw15, aw16, aw19, Nat.reduceLeDiff, if_true, if_false, Nat.reduceEqDiff, Nat.reduceAdd, beq_self_eq_true, beq_true, beq_false, Bool.false_eq_true]
  exact Fin.same hcl rfl ⟨rfl, rfl⟩

theorem body_ev : ∀ (r : Nat), r < 2 ^ 60 → ∀ (l : List Stmt) (h : List AObj), wL l < 2 ^ 40 → EvR E0 21 [bodyv l, i64 r] h (boolv (okB r l)) := by
  intro r
  induction r with
  | zero =>
    intro _ l h hw
    refine ev_of (fn := Tryd.f21) (hs := []) Tryd.func21 c21 (by simp) fun hcl => ?_
    have d0 : decide ((l.length : Int) = 0) = decide (l.length = 0) := by rw [decide_eq_decide]; omega
    have dz : decide ((0 : Int) < ((0 : Nat) : Int)) = false := rfl
    cases h0 : decide (l.length = 0)
    · simp only [ac21, last_obj, List.length_map, d0, h0, dz, ne_eq, not_false_eq_true, Option.map_some, Option.map_none, List.map_cons, List.map_nil, Bool.not_true, Bool.not_false, decide_true, decide_false, List.getElem?_cons_zero, List.getElem?_cons_succ, ↓aw1, ↓aw2, ↓aw17, aw3, aw4, aw5, aw6, aw7, aw8, aw9, aw10, aw11, aw12, aw13, aw14, aw15, aw16, aw19, Nat.reduceLeDiff, if_true, if_false, Nat.reduceEqDiff, Nat.reduceAdd, beq_self_eq_true, beq_true, beq_false, Bool.false_eq_true]
      exact Fin.same hcl rfl ⟨by simp only [okB, h0], rfl⟩
    · simp only [ac21, last_obj, List.length_map, d0, h0, dz, ne_eq, not_false_eq_true, Option.map_some, Option.map_none, List.map_cons, List.map_nil, Bool.not_true, Bool.not_false, decide_true, decide_false, List.getElem?_cons_zero, List.getElem?_cons_succ, ↓aw1, ↓aw2, ↓aw17, aw3, aw4, aw5, aw6, aw7, aw8, aw9, aw10, aw11, aw12, aw13, aw14, aw15, aw16, aw19, Nat.reduceLeDiff, if_true, if_false, Nat.reduceEqDiff, Nat.reduceAdd, beq_self_eq_true, beq_true, beq_false, Bool.false_eq_true]
      exact Fin.same hcl rfl ⟨by simp only [okB, h0], rfl⟩
  | succ r ih =>
    intro hr l h hw
    have ih := ih (by omega)
    refine ev_of (fn := Tryd.f21) (hs := []) Tryd.func21 c21 (by simp) fun hcl => ?_
    have hlen := wL_len l
    have d0 : decide ((l.length : Int) = 0) = decide (l.length = 0) := by rw [decide_eq_decide]; omega
    have dr : decide ((0 : Int) < ((r + 1 : Nat) : Int)) = true := by rw [decide_eq_true_eq]; omega
    have hany := stmt_any l 39 [.ref h.length 0] (fun s => !okS (okB r) s) (h ++ [.cells [i64 ((r + 1 : Nat) : Int)]]) (by omega)
      (fun s hs => stmtnot_ev r (by omega) ih s (by have := wL_mem hs; omega) _ h.length (last_obj _ _))
    cases h0 : decide (l.length = 0)
    · simp only [ac21, last_obj, List.length_map, d0, h0, dr, ne_eq, not_false_eq_true, Option.map_some, Option.map_none, List.map_cons, List.map_nil, Bool.not_true, Bool.not_false, decide_true, decide_false, List.getElem?_cons_zero, List.getElem?_cons_succ, ↓aw1, ↓aw2, ↓aw17, aw3, aw4, aw5, aw6, aw7, aw8, aw9, aw10, aw11, aw12, aw13, aw14, aw15, aw16, aw19, Nat.reduceLeDiff, if_true, if_false, Nat.reduceEqDiff, Nat.reduceAdd, beq_self_eq_true, beq_true, beq_false, Bool.false_eq_true]
      refine EvF.ret hany ?_
      simp only [ne_eq, not_false_eq_true, Option.map_some, Option.map_none, List.map_cons, List.map_nil, Bool.not_true, Bool.not_false, decide_true, decide_false, List.getElem?_cons_zero, List.getElem?_cons_succ, ↓aw1, ↓aw2, ↓aw17, aw3, aw4, aw5, aw6, aw7, aw8, aw9, aw10, aw11, aw12, aw13, aw14, aw15, aw16, aw19, Nat.reduceLeDiff, if_true, if_false, Nat.reduceEqDiff, Nat.reduceAdd, beq_self_eq_true, beq_true, beq_false, Bool.false_eq_true]
      exact Fin.same hcl rfl ⟨rfl, rfl⟩
    · simp only [ac21, last_obj, List.length_map, d0, h0, ne_eq, not_false_eq_true, Option.map_some, Option.map_none, List.map_cons, List.map_nil, Bool.not_true, Bool.not_false, decide_true, decide_false, List.getElem?_cons_zero, List.getElem?_cons_succ, ↓aw1, ↓aw2, ↓aw17, aw3, aw4, aw5, aw6, aw7, aw8, aw9, aw10, aw11, aw12, aw13, aw14, aw15, aw16, aw19, Nat.reduceLeDiff, if_true, if_false, Nat.reduceEqDiff, Nat.reduceAdd, beq_self_eq_true, beq_true, beq_false, Bool.false_eq_true]
      have : l = [] := List.length_eq_zero_iff.1 (by simpa using h0)
      subst this
      exact Fin.same hcl rfl ⟨rfl, rfl⟩

theorem funnot_ev (f : Fun) (hf : f.name.size + wL f.body < 2 ^ 40) (h : List AObj) : EvR E0 19 [funv f] h (boolv (!okF f)) := by
  refine ev_of (fn := Tryd.f19) (hs := []) Tryd.func19 c19 (by simp) fun hcl => ?_
  simp only [ac19, funv, last_obj, List.drop_zero, List.drop_succ_cons, ne_eq, not_false_eq_true, Option.map_some, Option.map_none, List.map_cons, List.map_nil, Bool.not_true, Bool.not_false, decide_true, decide_false, List.getElem?_cons_zero, List.getElem?_cons_succ, ↓aw1, ↓aw2, ↓aw17, aw3, aw4, aw5, aw6, aw7, aw8, aw9, aw10, aw11, aw12, aw13, aw14, aw15, aw16, aw19, Nat.reduceLeDiff, if_true, if_false, Nat.reduceEqDiff, Nat.reduceAdd, beq_self_eq_true, beq_true, beq_false, Bool.false_eq_true]
  refine EvF.ret (function_ev f.name _ (by omega)) ?_
  cases m1 : isFn f.name
  · simp only [ne_eq, not_false_eq_true, Option.map_some, Option.map_none, List.map_cons, List.map_nil, Bool.not_true, Bool.not_false, decide_true, decide_false, List.getElem?_cons_zero, List.getElem?_cons_succ, ↓aw1, ↓aw2, ↓aw17, aw3, aw4, aw5, aw6, aw7, aw8, aw9, aw10, aw11, aw12, aw13, aw14, aw15, aw16, aw19, Nat.reduceLeDiff, if_true, if_false, Nat.reduceEqDiff, Nat.reduceAdd, beq_self_eq_true, beq_true, beq_false, Bool.false_eq_true]
    exact Fin.same hcl rfl ⟨by simp [okF, m1], rfl⟩
  · simp only [last_obj, List.drop_zero, List.drop_succ_cons, ne_eq, not_false_eq_true, Option.map_some, Option.map_none, List.map_cons, List.map_nil, Bool.not_true, Bool.not_false, decide_true, decide_false, List.getElem?_cons_zero, List.getElem?_cons_succ, ↓aw1, ↓aw2, ↓aw17, aw3, aw4, aw5, aw6, aw7, aw8, aw9, aw10, aw11, aw12, aw13, aw14, aw15, aw16, aw19, Nat.reduceLeDiff, if_true, if_false, Nat.reduceEqDiff, Nat.reduceAdd, beq_self_eq_true, beq_true, beq_false, Bool.false_eq_true]
    refine EvF.ret (body_ev 40 (by omega) f.body _ (by omega)) ?_
    simp only [ne_eq, not_false_eq_true, Option.map_some, Option.map_none, List.map_cons, List.map_nil, Bool.not_true, Bool.not_false, decide_true, decide_false, List.getElem?_cons_zero, List.getElem?_cons_succ, ↓aw1, ↓aw2, ↓aw17, aw3, aw4, aw5, aw6, aw7, aw8, aw9, aw10, aw11, aw12, aw13, aw14, aw15, aw16, aw19, Nat.reduceLeDiff, if_true, if_false, Nat.reduceEqDiff, Nat.reduceAdd, beq_self_eq_true, beq_true, beq_false, Bool.false_eq_true]
    exact Fin.same hcl rfl ⟨by simp [okF, m1], rfl⟩

theorem shaped_ev (l : List Fun) (hw : wF l < 2 ^ 40) (h : List AObj) : EvR E0 9 [funsv l] h (boolv (okFs l)) := by
  refine ev_of (fn := Tryd.f9) (hs := []) Tryd.func9 c9 (by simp) fun hcl => ?_
  have hlen := wF_len l
  have d0 : decide ((l.length : Int) ≤ 4096) = decide (l.length ≤ 4096) := by rw [decide_eq_decide]; omega
  cases h0 : decide (l.length ≤ 4096)
  · simp only [ac9, List.length_map, d0, h0, ne_eq, not_false_eq_true, Option.map_some, Option.map_none, List.map_cons, List.map_nil, Bool.not_true, Bool.not_false, decide_true, decide_false, List.getElem?_cons_zero, List.getElem?_cons_succ, ↓aw1, ↓aw2, ↓aw17, aw3, aw4, aw5, aw6, aw7, aw8, aw9, aw10, aw11, aw12, aw13, aw14, aw15, aw16, aw19, Nat.reduceLeDiff, if_true, if_false, Nat.reduceEqDiff, Nat.reduceAdd, beq_self_eq_true, beq_true, beq_false, Bool.false_eq_true]
    exact Fin.same0 hcl rfl ⟨by simp [okFs, h0], rfl⟩
  · simp only [ac9, List.length_map, d0, h0, ne_eq, not_false_eq_true, Option.map_some, Option.map_none, List.map_cons, List.map_nil, Bool.not_true, Bool.not_false, decide_true, decide_false, List.getElem?_cons_zero, List.getElem?_cons_succ, ↓aw1, ↓aw2, ↓aw17, aw3, aw4, aw5, aw6, aw7, aw8, aw9, aw10, aw11, aw12, aw13, aw14, aw15, aw16, aw19, Nat.reduceLeDiff, if_true, if_false, Nat.reduceEqDiff, Nat.reduceAdd, beq_self_eq_true, beq_true, beq_false, Bool.false_eq_true]
    refine EvF.ret (fun_any l 19 [] (fun f => !okF f) h (by omega) (fun f hf => funnot_ev f (by have := wF_mem hf; omega) h)) ?_
    simp only [ne_eq, not_false_eq_true, Option.map_some, Option.map_none, List.map_cons, List.map_nil, Bool.not_true, Bool.not_false, decide_true, decide_false, List.getElem?_cons_zero, List.getElem?_cons_succ, ↓aw1, ↓aw2, ↓aw17, aw3, aw4, aw5, aw6, aw7, aw8, aw9, aw10, aw11, aw12, aw13, aw14, aw15, aw16, aw19, Nat.reduceLeDiff, if_true, if_false, Nat.reduceEqDiff, Nat.reduceAdd, beq_self_eq_true, beq_true, beq_false, Bool.false_eq_true]
    exact Fin.same0 hcl rfl ⟨by simp [okFs, h0], rfl⟩
end Go.Abs.Fr
