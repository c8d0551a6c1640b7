/- FragNests' law: its function answers true. -/
import Derived.Test.YtgbedffflggenaaDoorFrH
import Derived.Test.YtgbedffflggenaaDoorFrCn
import Derived.Test.YtgbedffflggenaaDoorAbsZl
set_option linter.all false
namespace Go.Abs.Fr
open Go Go.Abs Go.Proofs
set_option linter.unusedSimpArgs false
set_option maxRecDepth 100000

abbrev More : ByteArray := ⟨#[77, 111, 114, 101]⟩
/-- One statement more each time. -/
def nestL (b : List Stmt) : Nat → List Stmt
  | 0 => b
  | i + 1 => [.mk 3 More [] (nestL b i) []]
def nestV (b : List Stmt) : Nat → AV
  | 0 => bodyv b
  | i + 1 => .sl .full [.agg [i64 3, str More, .sl .full [], nestV b i, .sl .full []]]
theorem low_body (b : List Stmt) : lows (b.map stmtv) = b.map stmtv := by rw [← stmtsv_map]; exact low_stmts b
theorem nestV_low (b : List Stmt) : ∀ i, (nestV b i).low = bodyv (nestL b i)
  | 0 => by simp only [nestV, AV.low, low_body, nestL]
  | i + 1 => by
    have : bodyv (nestL b (i + 1)) = .sl .unk [.agg [i64 3, str More, argsv [], bodyv (nestL b i), bodyv []]] := by
      simp only [nestL, bodyv, List.map_cons, List.map_nil]
      rw [stmtv_eq]; rfl
    rw [this]
    simp only [nestV, AV.low, lows, nestV_low b i]; rfl
theorem nestV_sl (b : List Stmt) (i : Nat) : (nestV b i).sure = true ∧ (nestV b i).cells = [nestV b i] ∧ (nestV b i).strip = nestV b i ∧ AV.one (nestV b i) = true := by
  cases i <;> exact ⟨rfl, rfl, rfl, rfl⟩
theorem nestL_sz (b : List Stmt) : ∀ i, szL (nestL b i) = szL b + i
  | 0 => by simp [nestL]
  | i + 1 => by simp only [nestL, szL, szS, nestL_sz b i]; omega
theorem nestL_w (b : List Stmt) : ∀ i, wL (nestL b i) = wL b + 5 * i
  | 0 => by simp [nestL]
  | i + 1 => by simp only [nestL, wL, wS, wA, nestL_w b i, show More.size = 4 from rfl]; omega
theorem nestL_deep (b : List Stmt) : ∀ (r i : Nat), r < i → okB r (nestL b i) = false
  | 0, i + 1, _ => by simp [okB, nestL]
  | r + 1, i + 1, h => by
    have ih := nestL_deep b r i (by omega)
    simp only [okB, nestL, List.any_cons, List.any_nil, Bool.or_false, Bool.not_not]
    unfold okS
    have e2 : decide ((Stmt.mk 3 More [] (nestL b i) []).op = 2) = false := rfl
    have e1 : decide ((Stmt.mk 3 More [] (nestL b i) []).op = 1) = false := rfl
    have e4 : decide ((Stmt.mk 3 More [] (nestL b i) []).op = 4) = false := rfl
    have e5 : (Stmt.mk 3 More [] (nestL b i) []).thn = nestL b i := rfl
    simp only [e2, e1, e4, e5, ih, Bool.false_eq_true, if_false, Bool.false_and, Bool.and_false, ite_self]
theorem and63 (n : Int) : ∃ m : Nat, ibits .and .i64 n 63 = (m : Int) ∧ m ≤ 63 := by
  refine ⟨((BitVec.ofInt 64 n) &&& (BitVec.ofInt 64 63)).toNat, ?_, ?_⟩
  · have : ((BitVec.ofInt 64 n) &&& (BitVec.ofInt 64 63)).toNat ≤ 63 := by
      rw [BitVec.toNat_and]
      exact Nat.and_le_right
    show IntKind.i64.wrap ((((BitVec.ofInt 64 n) &&& (BitVec.ofInt 64 63)).toNat : Nat) : Int) = _
    rw [wrap_i64] <;> omega
  · rw [BitVec.toNat_and]
    exact Nat.and_le_right

/-- The fragment that grows. -/
abbrev frg (b : List Stmt) (i : Nat) : List Fun := [⟨⟨#[116]⟩, nestL b i⟩]
abbrev nobj (b : List Stmt) (i : Nat) : AObj := .cells [str ⟨#[116]⟩, nestV b i]

mutual
theorem under_stmt : ∀ (s : Stmt), (stmtv s).under 0 = true
  | .mk o n a t e => by
    have h1 := under_stmts t
    have h2 := under_stmts e
    have h3 : unders 0 (a.map argv) = true := by
      induction a with
      | nil => rfl
      | cons x a ih => simp only [List.map_cons, unders, argv, AV.under, ih, Bool.and_self]
    simp only [stmtv, AV.under, unders, h1, h2, h3, Bool.and_self]
theorem under_stmts : ∀ (l : List Stmt), unders 0 (stmtsv l) = true
  | [] => by simp only [stmtsv, unders]
  | s :: l => by simp only [stmtsv, unders, under_stmt s, under_stmts l, Bool.and_self]
end
theorem nestV_under (b : List Stmt) : ∀ i, (nestV b i).under 0 = true
  | 0 => by have := under_stmts b; rw [stmtsv_map] at this; simp only [nestV, AV.under, this]
  | i + 1 => by simp only [nestV, AV.under, unders, nestV_under b i, Bool.and_self]

theorem lend_frg {f : FuncId} {fn : Func} {c : Code} {u : Value} (hf : E0.P.funcs[f]? = some fn) (hn : (fn.name == "runtime.NumGoroutine") = false) (hb : fn.body = some c) {b : List Stmt} {i : Nat} {rest : List AV}
    (hr : ∀ a, a ∈ rest → ∃ v, a = .lit v) (hev : EvR E0 f (funsv (frg b i) :: rest) [] (.lit u)) {h : List AObj} {id : Nat} (hid : h[id]? = some (nobj b i)) : EvR E0 f (.vw id 0 1 1 :: rest) h (.lit u) := by
  have hlr : lows rest = rest := by
    clear hev
    induction rest with
    | nil => rfl
    | cons a l ih =>
      obtain ⟨v, rfl⟩ := hr a (List.mem_cons_self ..)
      simp only [lows, AV.low, ih fun x hx => hr x (List.mem_cons_of_mem _ hx)]
  refine EvR.lend (args' := .sl .unk [.agg [str ⟨#[116]⟩, nestV b i]] :: rest) hf hn hb (hev.high (by simp only [lows, AV.low, nestV_low, hlr]; rfl)) (by simp) fun j a a' ha ha' => ?_
  cases j with
  | zero =>
    simp only [List.getElem?_cons_zero, Option.some.injEq] at ha ha'
    subst ha ha'
    exact ⟨.one hid (by simp only [unders, AV.under, nestV_under, Bool.and_self]) rfl, fun k es h => by cases h⟩
  | succ j =>
    simp only [List.getElem?_cons_succ] at ha ha'
    rw [ha] at ha'
    cases ha'
    obtain ⟨v, rfl⟩ := hr _ (List.mem_of_getElem? ha)
    exact ⟨.same rfl, fun k es h => by cases h⟩

theorem frg_text (b : List Stmt) (i : Nat) : decide ((⟨(textT (frg b i)).toArray⟩ : ByteArray) = ⟨#[]⟩) = !okFs (frg b i) := by
  unfold textT
  cases okFs (frg b i)
  · simp
  · rw [Bool.not_true, decide_eq_false_iff_not]
    intro h
    have := congrArg ByteArray.size h
    rw [szl] at this
    simp only [if_true, frg, funsT, List.flatMap_cons, List.flatMap_nil, funT, lineT, List.length_append, List.length_cons] at this
    rw [show (⟨#[]⟩ : ByteArray).size = 0 from rfl] at this
    omega

theorem flat1 (cs : List AV) : (flatC [AV.agg cs]).map AV.strip = cs.map AV.strip := by simp [flatC, AV.cells]

set_option maxHeartbeats 2000000 in
theorem nests_ev (b : List Stmt) (n : Int) (hm : mxL b ≤ 2 ^ 47) (h : List AObj) : EvR E0 5 [bodyv b, i64 n] h (boolv true) := by
  refine ev_of (fn := Tryd.f5) (hs := [(2, 2)]) Tryd.func5 c5n (by simp) fun hcl => ?_
  have hmx : mxF (frg b 0) ≤ 2 ^ 48 := by simp only [mxF, frg, nestL, List.length_nil, show (⟨#[116]⟩ : ByteArray).size = 1 from rfl]; omega
  have hget : ∀ i, (h ++ [nobj b i])[h.length]? = some (nobj b i) := fun i => by simp
  have hset : ∀ i x, (h ++ [nobj b i]).set h.length x = h ++ [x] := fun i x => by simp
  simp only [ac5n, ne_eq, not_false_eq_true, Option.map_some, Option.map_none, List.map_cons, List.map_nil, Bool.not_true, Bool.not_false, decide_true, decide_false, List.getElem?_cons_zero, List.getElem?_cons_succ, ↓aw1, ↓aw2, ↓aw17, aw3, aw4, aw5, aw6, aw7, aw8, aw9, aw10, aw11, aw12, aw13, aw14, aw15, aw16, aw19, Nat.reduceLeDiff, if_true, if_false, Nat.reduceEqDiff, Nat.reduceAdd, beq_self_eq_true, beq_true, beq_false, Bool.false_eq_true]
  refine EvF.ret (awake_ev h) ?_
  simp only [ne_eq, not_false_eq_true, Option.map_some, Option.map_none, List.map_cons, List.map_nil, Bool.not_true, Bool.not_false, decide_true, decide_false, List.getElem?_cons_zero, List.getElem?_cons_succ, ↓aw1, ↓aw2, ↓aw17, aw3, aw4, aw5, aw6, aw7, aw8, aw9, aw10, aw11, aw12, aw13, aw14, aw15, aw16, aw19, Nat.reduceLeDiff, if_true, if_false, Nat.reduceEqDiff, Nat.reduceAdd, beq_self_eq_true, beq_true, beq_false, Bool.false_eq_true]
  refine Need.mk ⟨rfl, by decide, by decide, fun p hp => by simp only [List.mem_singleton] at hp; subst hp; exact ⟨rfl, rfl, rfl⟩⟩ ?_
  simp only [flat1, ne_eq, not_false_eq_true, Option.map_some, Option.map_none, List.map_cons, List.map_nil, Bool.not_true, Bool.not_false, decide_true, decide_false, List.getElem?_cons_zero, List.getElem?_cons_succ, ↓aw1, ↓aw2, ↓aw17, aw3, aw4, aw5, aw6, aw7, aw8, aw9, aw10, aw11, aw12, aw13, aw14, aw15, aw16, aw19, Nat.reduceLeDiff, if_true, if_false, Nat.reduceEqDiff, Nat.reduceAdd, beq_self_eq_true, beq_true, beq_false, Bool.false_eq_true]
  have hb0 : AV.sl Cap.unk (b.map stmtv) = nestV b 0 := rfl
  refine EvF.ret (lend_frg Tryd.func8 (by kernel_rfl) (c := (Tryd.f8.body).getD .skip) (by kernel_rfl) (b := b) (i := 0) (by simp) (isfew_ev (frg b 0) hmx 500 (by decide) (by decide) []) (by simp; rfl)) ?_
  cases h0 : decide ((0 : Int) ≤ fewF (frg b 0) 500)
  · simp only [ne_eq, not_false_eq_true, Option.map_some, Option.map_none, List.map_cons, List.map_nil, Bool.not_true, Bool.not_false, decide_true, decide_false, List.getElem?_cons_zero, List.getElem?_cons_succ, ↓aw1, ↓aw2, ↓aw17, aw3, aw4, aw5, aw6, aw7, aw8, aw9, aw10, aw11, aw12, aw13, aw14, aw15, aw16, aw19, Nat.reduceLeDiff, if_true, if_false, Nat.reduceEqDiff, Nat.reduceAdd, beq_self_eq_true, beq_true, beq_false, Bool.false_eq_true]
    exact Fin.same hcl rfl ⟨rfl, rfl⟩
  · rw [decide_eq_true_eq] at h0
    have hw := few_w h0
    have hwi : ∀ i, wF (frg b i) = wF (frg b 0) + 5 * i := fun i => by simp only [wF, frg, nestL_w, nestL]; omega
    have hzi : ∀ i, szF (frg b i) = szF (frg b 0) + i := fun i => by simp only [szF, frg, nestL_sz, nestL]; omega
    have hsz := szF_wF (frg b 0)
    simp only [ne_eq, not_false_eq_true, Option.map_some, Option.map_none, List.map_cons, List.map_nil, Bool.not_true, Bool.not_false, decide_true, decide_false, List.getElem?_cons_zero, List.getElem?_cons_succ, ↓aw1, ↓aw2, ↓aw17, aw3, aw4, aw5, aw6, aw7, aw8, aw9, aw10, aw11, aw12, aw13, aw14, aw15, aw16, aw19, Nat.reduceLeDiff, if_true, if_false, Nat.reduceEqDiff, Nat.reduceAdd, beq_self_eq_true, beq_true, beq_false, Bool.false_eq_true]
    refine EvF.ret (lend_frg Tryd.func9 (by kernel_rfl) (c := (Tryd.f9.body).getD .skip) (by kernel_rfl) (b := b) (i := 0) (by simp) (shaped_ev (frg b 0) (by omega) []) (by simp; rfl)) ?_
    cases hs : okFs (frg b 0)
    · simp only [ne_eq, not_false_eq_true, Option.map_some, Option.map_none, List.map_cons, List.map_nil, Bool.not_true, Bool.not_false, decide_true, decide_false, List.getElem?_cons_zero, List.getElem?_cons_succ, ↓aw1, ↓aw2, ↓aw17, aw3, aw4, aw5, aw6, aw7, aw8, aw9, aw10, aw11, aw12, aw13, aw14, aw15, aw16, aw19, Nat.reduceLeDiff, if_true, if_false, Nat.reduceEqDiff, Nat.reduceAdd, beq_self_eq_true, beq_true, beq_false, Bool.false_eq_true]
      exact Fin.same hcl rfl ⟨rfl, rfl⟩
    · simp only [ne_eq, not_false_eq_true, Option.map_some, Option.map_none, List.map_cons, List.map_nil, Bool.not_true, Bool.not_false, decide_true, decide_false, List.getElem?_cons_zero, List.getElem?_cons_succ, ↓aw1, ↓aw2, ↓aw17, aw3, aw4, aw5, aw6, aw7, aw8, aw9, aw10, aw11, aw12, aw13, aw14, aw15, aw16, aw19, Nat.reduceLeDiff, if_true, if_false, Nat.reduceEqDiff, Nat.reduceAdd, beq_self_eq_true, beq_true, beq_false, Bool.false_eq_true]
      refine EvF.ret (lend_frg Tryd.func13 (by kernel_rfl) (c := (Tryd.f13.body).getD .skip) (by kernel_rfl) (b := b) (i := 0) (by simp) (fsize_ev (frg b 0) (by omega) []) (by simp; rfl)) ?_
      obtain ⟨m, hm1, hm2⟩ := and63 n
      simp only [ne_eq, not_false_eq_true, Option.map_some, Option.map_none, List.map_cons, List.map_nil, Bool.not_true, Bool.not_false, decide_true, decide_false, List.getElem?_cons_zero, List.getElem?_cons_succ, ↓aw1, ↓aw2, ↓aw17, aw3, aw4, aw5, aw6, aw7, aw8, aw9, aw10, aw11, aw12, aw13, aw14, aw15, aw16, aw19, Nat.reduceLeDiff, if_true, if_false, Nat.reduceEqDiff, Nat.reduceAdd, beq_self_eq_true, beq_true, beq_false, Bool.false_eq_true]
      refine LoopF.by (α := Nat) (fun i => ⟨[(1, i64 n), (5, boolv true), (6, .vw h.length 0 1 1), (7, i64 ((szF (frg b 0) + i : Nat) : Int)), (8, i64 i)], h ++ [nobj b i]⟩) (fun i => m - i)
        (fun i => i ≤ m) 0 (Nat.zero_le _) (weak_of rfl (by simp [look])) ?_
      rintro i hi1
      have w3 : IntKind.i64.wrap ((i : Int) + 1) = ((i + 1 : Nat) : Int) := by rw [wrap_i64] <;> omega
      by_cases hi : i < m
      · have e1 : decide ((i : Int) < (m : Int)) = true := by rw [decide_eq_true_eq]; omega
        simp only [hm1, e1, ne_eq, not_false_eq_true, Option.map_some, Option.map_none, List.map_cons, List.map_nil, Bool.not_true, Bool.not_false, decide_true, decide_false, List.getElem?_cons_zero, List.getElem?_cons_succ, ↓aw1, ↓aw2, ↓aw17, aw3, aw4, aw5, aw6, aw7, aw8, aw9, aw10, aw11, aw12, aw13, aw14, aw15, aw16, aw19, Nat.reduceLeDiff, if_true, if_false, Nat.reduceEqDiff, Nat.reduceAdd, beq_self_eq_true, beq_true, beq_false, Bool.false_eq_true]
        obtain ⟨n1, n2, n3, n4⟩ := nestV_sl b i
        have z0 : 0 + Int.toNat 0 * 2 = 0 := rfl
        have hnx : nestV b (i + 1) = .sl .full [.agg [i64 3, str More, .sl .full [], nestV b i, .sl .full []]] := rfl
        refine Need.mk (by decide) ?_
        simp only [z0, hget, n1, n2, n3, n4, ne_eq, not_false_eq_true, Option.map_some, Option.map_none, List.map_cons, List.map_nil, Bool.not_true, Bool.not_false, decide_true, decide_false, List.getElem?_cons_zero, List.getElem?_cons_succ, ↓aw1, ↓aw2, ↓aw17, aw3, aw4, aw5, aw6, aw7, aw8, aw9, aw10, aw11, aw12, aw13, aw14, aw15, aw16, aw19, Nat.reduceLeDiff, if_true, if_false, Nat.reduceEqDiff, Nat.reduceAdd, beq_self_eq_true, beq_true, beq_false, Bool.false_eq_true]
        refine Need.mk ⟨rfl, by decide, by decide, fun p hp => by
          simp only [List.mem_singleton] at hp
          subst hp
          refine ⟨rfl, rfl, ?_⟩
          show (List.all [i64 3, str More, .sl .full [], nestV b i, .sl .full []] AV.one) = true
          simp only [List.all_cons, List.all_nil, n4]; rfl⟩ ?_
        simp only [ne_eq, not_false_eq_true, Option.map_some, Option.map_none, List.map_cons, List.map_nil, Bool.not_true, Bool.not_false, decide_true, decide_false, List.getElem?_cons_zero, List.getElem?_cons_succ, ↓aw1, ↓aw2, ↓aw17, aw3, aw4, aw5, aw6, aw7, aw8, aw9, aw10, aw11, aw12, aw13, aw14, aw15, aw16, aw19, Nat.reduceLeDiff, if_true, if_false, Nat.reduceEqDiff, Nat.reduceAdd, beq_self_eq_true, beq_true, beq_false, Bool.false_eq_true]
        refine Need.mk (by decide) ?_
        simp only [z0, hget, hset, n1, n2, n3, n4, ne_eq, not_false_eq_true, Option.map_some, Option.map_none, List.map_cons, List.map_nil, Bool.not_true, Bool.not_false, decide_true, decide_false, List.getElem?_cons_zero, List.getElem?_cons_succ, ↓aw1, ↓aw2, ↓aw17, aw3, aw4, aw5, aw6, aw7, aw8, aw9, aw10, aw11, aw12, aw13, aw14, aw15, aw16, aw19, Nat.reduceLeDiff, if_true, if_false, Nat.reduceEqDiff, Nat.reduceAdd, beq_self_eq_true, beq_true, beq_false, Bool.false_eq_true]
        have hwn := hwi (i + 1)
        have hzn := hzi (i + 1)
        have hlen := funsT_len (frg b (i + 1)) (by omega)
        have hge : ([AObj.cells [str ⟨#[116]⟩, AV.sl .full [.agg [i64 3, str More, .sl .full [], nestV b i, .sl .full []]]]] : List AObj) = [nobj b (i + 1)] := rfl
        have w7 : IntKind.i64.wrap (((szF (frg b 0) + i : Nat) : Int) + 1) = ((szF (frg b 0) + (i + 1) : Nat) : Int) := by rw [wrap_i64] <;> omega
        have d7 : ∀ k : Nat, decide ((k : Int) = (k : Int)) = true := fun k => by simp
        have d40 : decide ((40 : Int) ≤ (i : Int)) = decide (40 ≤ i) := by rw [decide_eq_decide]; omega
        rw [hge]
        refine EvF.ret (lend_frg Tryd.func13 (by kernel_rfl) (c := (Tryd.f13.body).getD .skip) (by kernel_rfl) (b := b) (i := i + 1) (by simp) (fsize_ev (frg b (i + 1)) (by omega) []) (by simp)) ?_
        rw [hzn]
        simp only [w7, d7, ne_eq, not_false_eq_true, Option.map_some, Option.map_none, List.map_cons, List.map_nil, Bool.not_true, Bool.not_false, decide_true, decide_false, List.getElem?_cons_zero, List.getElem?_cons_succ, ↓aw1, ↓aw2, ↓aw17, aw3, aw4, aw5, aw6, aw7, aw8, aw9, aw10, aw11, aw12, aw13, aw14, aw15, aw16, aw19, Nat.reduceLeDiff, if_true, if_false, Nat.reduceEqDiff, Nat.reduceAdd, beq_self_eq_true, beq_true, beq_false, Bool.false_eq_true]
        refine EvF.ret (lend_frg Tryd.func9 (by kernel_rfl) (c := (Tryd.f9.body).getD .skip) (by kernel_rfl) (b := b) (i := i + 1) (by simp) (shaped_ev (frg b (i + 1)) (by omega) []) (by simp)) ?_
        simp only [ne_eq, not_false_eq_true, Option.map_some, Option.map_none, List.map_cons, List.map_nil, Bool.not_true, Bool.not_false, decide_true, decide_false, List.getElem?_cons_zero, List.getElem?_cons_succ, ↓aw1, ↓aw2, ↓aw17, aw3, aw4, aw5, aw6, aw7, aw8, aw9, aw10, aw11, aw12, aw13, aw14, aw15, aw16, aw19, Nat.reduceLeDiff, if_true, if_false, Nat.reduceEqDiff, Nat.reduceAdd, beq_self_eq_true, beq_true, beq_false, Bool.false_eq_true]
        refine EvF.ret (lend_frg Tryd.func11 (by kernel_rfl) (c := (Tryd.f11.body).getD .skip) (by kernel_rfl) (b := b) (i := i + 1) (by simp) (text_ev (frg b (i + 1)) (by omega) (by omega) []) (by simp)) ?_
        have hft := frg_text b (i + 1)
        have hx : ∀ q : Bool, (true ^^ decide (q = !!q)) = false := by decide
        have hdeep : 40 ≤ i → okFs (frg b (i + 1)) = false := fun h40 => by
          have := nestL_deep b 40 (i + 1) (by omega)
          simp only [okFs, frg, List.any_cons, List.any_nil, okF, this, Bool.and_false, Bool.not_false, Bool.or_false, Bool.not_true]
        cases h40 : decide (40 ≤ i)
        · simp only [hft, hx, d40, h40, w3, ne_eq, not_false_eq_true, Option.map_some, Option.map_none, List.map_cons, List.map_nil, Bool.not_true, Bool.not_false, decide_true, decide_false, List.getElem?_cons_zero, List.getElem?_cons_succ, ↓aw1, ↓aw2, ↓aw17, aw3, aw4, aw5, aw6, aw7, aw8, aw9, aw10, aw11, aw12, aw13, aw14, aw15, aw16, aw19, Nat.reduceLeDiff, if_true, if_false, Nat.reduceEqDiff, Nat.reduceAdd, beq_self_eq_true, beq_true, beq_false, Bool.false_eq_true]
          exact ⟨i + 1, by omega, by omega, weak_of rfl (by simp [look])⟩
        · rw [decide_eq_true_eq] at h40
          have hd := hdeep h40
          simp only [hft, hx, d40, h40, ne_eq, not_false_eq_true, Option.map_some, Option.map_none, List.map_cons, List.map_nil, Bool.not_true, Bool.not_false, decide_true, decide_false, List.getElem?_cons_zero, List.getElem?_cons_succ, ↓aw1, ↓aw2, ↓aw17, aw3, aw4, aw5, aw6, aw7, aw8, aw9, aw10, aw11, aw12, aw13, aw14, aw15, aw16, aw19, Nat.reduceLeDiff, if_true, if_false, Nat.reduceEqDiff, Nat.reduceAdd, beq_self_eq_true, beq_true, beq_false, Bool.false_eq_true]
          refine EvF.ret (lend_frg Tryd.func9 (by kernel_rfl) (c := (Tryd.f9.body).getD .skip) (by kernel_rfl) (b := b) (i := i + 1) (by simp) (shaped_ev (frg b (i + 1)) (by omega) []) (by simp)) ?_
          rw [hd]
          simp only [w3, ne_eq, not_false_eq_true, Option.map_some, Option.map_none, List.map_cons, List.map_nil, Bool.not_true, Bool.not_false, decide_true, decide_false, List.getElem?_cons_zero, List.getElem?_cons_succ, ↓aw1, ↓aw2, ↓aw17, aw3, aw4, aw5, aw6, aw7, aw8, aw9, aw10, aw11, aw12, aw13, aw14, aw15, aw16, aw19, Nat.reduceLeDiff, if_true, if_false, Nat.reduceEqDiff, Nat.reduceAdd, beq_self_eq_true, beq_true, beq_false, Bool.false_eq_true]
          exact ⟨i + 1, by omega, by omega, weak_of rfl (by simp [look])⟩
      · have e1 : decide ((i : Int) < (m : Int)) = false := by rw [decide_eq_false_iff_not]; omega
        simp only [hm1, e1, ne_eq, not_false_eq_true, Option.map_some, Option.map_none, List.map_cons, List.map_nil, Bool.not_true, Bool.not_false, decide_true, decide_false, List.getElem?_cons_zero, List.getElem?_cons_succ, ↓aw1, ↓aw2, ↓aw17, aw3, aw4, aw5, aw6, aw7, aw8, aw9, aw10, aw11, aw12, aw13, aw14, aw15, aw16, aw19, Nat.reduceLeDiff, if_true, if_false, Nat.reduceEqDiff, Nat.reduceAdd, beq_self_eq_true, beq_true, beq_false, Bool.false_eq_true]
        exact Fin.same hcl rfl ⟨rfl, rfl⟩
end Go.Abs.Fr
