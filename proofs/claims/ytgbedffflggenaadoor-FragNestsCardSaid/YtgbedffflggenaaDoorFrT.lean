/- Fragments as data; what is shaped; their size. -/
import Derived.Test.YtgbedffflggenaaDoorFrD
import Derived.Test.YtgbedffflggenaaDoorFrS
import Derived.Test.YtgbedffflggenaaDoorAbsB1
import Derived.Lib.IndexLaws
set_option linter.all false
namespace Go.Abs.Fr
open Go Go.Abs Go.Proofs
set_option linter.unusedSimpArgs false
set_option maxRecDepth 100000

def InR (n : Int) : Prop := -9223372036854775808 ≤ n ∧ n ≤ 9223372036854775807

structure Arg where
  text : Bool
  n : Int
  s : ByteArray
  hn : InR n

inductive Stmt where
  | mk (op : Int) (name : ByteArray) (args : List Arg) (thn els : List Stmt)

structure Fun where
  name : ByteArray
  body : List Stmt

abbrev str (s : ByteArray) : AV := .lit (.string s)
def argv (a : Arg) : AV := .agg [boolv a.text, i64 a.n, str a.s]
abbrev argsv (l : List Arg) : AV := .sl .unk (l.map argv)

def Stmt.op : Stmt → Int | .mk o _ _ _ _ => o
def Stmt.name : Stmt → ByteArray | .mk _ n _ _ _ => n
def Stmt.args : Stmt → List Arg | .mk _ _ a _ _ => a
def Stmt.thn : Stmt → List Stmt | .mk _ _ _ t _ => t
def Stmt.els : Stmt → List Stmt | .mk _ _ _ _ e => e

mutual
def stmtv : Stmt → AV
  | .mk o n a t e => .agg [i64 o, str n, argsv a, .sl .unk (stmtsv t), .sl .unk (stmtsv e)]
def stmtsv : List Stmt → List AV
  | [] => []
  | s :: l => stmtv s :: stmtsv l
end

theorem stmtsv_map : ∀ (l : List Stmt), stmtsv l = l.map stmtv
  | [] => rfl
  | s :: l => by simp only [stmtsv, List.map_cons, stmtsv_map l]

abbrev bodyv (l : List Stmt) : AV := .sl .unk (l.map stmtv)
theorem stmtv_eq (s : Stmt) : stmtv s = .agg [i64 s.op, str s.name, argsv s.args, bodyv s.thn, bodyv s.els] := by
  cases s; simp only [stmtv, stmtsv_map]; rfl
def funv (f : Fun) : AV := .agg [str f.name, bodyv f.body]
abbrev funsv (l : List Fun) : AV := .sl .unk (l.map funv)

/-! ### How much there is -/
mutual
def szS : Stmt → Nat
  | .mk _ _ _ t e => 1 + szL t + szL e
def szL : List Stmt → Nat
  | [] => 0
  | s :: l => szS s + szL l
end
theorem szS_eq (s : Stmt) : szS s = 1 + szL s.thn + szL s.els := by cases s; simp only [szS]; rfl
theorem szL_mem : ∀ {l : List Stmt} {s : Stmt}, s ∈ l → szS s ≤ szL l
  | x :: l, s, h => by
    rcases List.mem_cons.1 h with rfl | h
    · simp only [szL]; omega
    · have := szL_mem h; simp only [szL]; omega
theorem szL_len : ∀ (l : List Stmt), l.length ≤ szL l
  | [] => by simp [szL]
  | s :: l => by have := szL_len l; have := szS_eq s; simp only [szL, List.length_cons]; omega

theorem sum_append (l l' : List Nat) : (l ++ l').sum = l.sum + l'.sum := by simp

theorem szL_append : ∀ (l l' : List Stmt), szL (l ++ l') = szL l + szL l'
  | [], l' => by simp [szL]
  | s :: l, l' => by simp only [List.cons_append, szL, szL_append l l']; omega

/-! ### Elements of lists of values -/
theorem map_get {α : Type} (f : α → AV) (l : List α) (i : Nat) (x : α) (h : l[i]? = some x) : (l.map f)[i]? = some (f x) := by rw [List.getElem?_map, h]; rfl

/-- Every element of a list of records of k cells. -/
theorem Elem.recs {es : List AV} {n : Nat} {P K : AV → Prop} {t' : ∀ e, Tag (K e)} {t : Tag fun e => Need (P e) (K e) (t' e)} {a : AV} (h : es[n]? = some a) (hp : P a) (hk : K a) : Elem es n (fun e => Need (P e) (K e) (t' e)) t := fun e he => by
  have := Option.some.inj (h.symm.trans he)
  subst this
  exact ⟨hp, hk⟩

theorem ElemT.recs {α : Type} {es : List α} {n : Nat} {P K : α → Prop} {t' : ∀ e, Tag (K e)} {t : Tag fun e => Need (P e) (K e) (t' e)} {a : α} (h : es[n]? = some a) (hp : P a) (hk : K a) : ElemT es n (fun e => Need (P e) (K e) (t' e)) t := fun e he => by
  have := Option.some.inj (h.symm.trans he)
  subst this
  exact ⟨hp, hk⟩

/-! ### size: frag's and the document's -/
theorem app1J (h J : List AObj) (o : AObj) : (h ++ J) ++ [o] = h ++ (J ++ [o]) := by simp
theorem getJ (h J : List AObj) (o : AObj) : (h ++ J ++ [o])[(h ++ J).length]? = some o := by simp
theorem setJ (h J : List AObj) (o o' : AObj) : (h ++ J ++ [o]).set (h ++ J).length o' = h ++ J ++ [o'] := by simp

theorem drop_get {α : Type} {l : List α} {i : Nat} {x : α} (h : l[i]? = some x) : l.drop i = x :: l.drop (i + 1) := by
  have hi := (List.getElem?_eq_some_iff.1 h)
  obtain ⟨hlt, he⟩ := hi
  rw [List.drop_eq_getElem_cons hlt, he]

set_option maxRecDepth 100000 in
theorem size_ev : ∀ (k : Nat) (l : List Stmt), szL l ≤ k → szL l < 2 ^ 60 → ∀ (h : List AObj), EvR E0 28 [bodyv l] h (i64 (szL l)) := by
  intro k
  induction k using Nat.strongRecOn with
  | _ k ih =>
    intro l hk hb h
    refine ev_of (fn := Tryd.f28) (hs := []) Tryd.func28 c28 (by simp) fun hcl => ?_
    have hlen := szL_len l
    simp only [ac28, List.length_map, ne_eq, not_false_eq_true, Option.map_some, Option.map_none, List.map_cons, List.map_nil, Bool.not_true, Bool.not_false, decide_true, decide_false, List.getElem?_cons_zero, List.getElem?_cons_succ, ↓aw1, ↓aw2, ↓aw17, aw3, aw4, aw5, aw6, aw7, aw8, aw9, aw10, aw11, aw12, aw13, aw14, aw15, aw16, aw19, Nat.reduceLeDiff, if_true, if_false, Nat.reduceEqDiff, Nat.reduceAdd, beq_self_eq_true, beq_true, beq_false, Bool.false_eq_true]
    refine LoopF.by (α := Nat × Nat × List AObj) (fun x => ⟨[(3, i64 x.2.1), (8, bodyv l), (9, i64 l.length), (10, i64 x.1)], h ++ x.2.2⟩) (fun x => l.length - x.1)
      (fun x => x.1 ≤ l.length ∧ x.2.1 + szL (l.drop x.1) = szL l + (l.length - x.1)) (0, l.length, []) ⟨by omega, by simp; omega⟩ (weak_of (by simp) (by simp [look])) ?_
    rintro ⟨i, acc, J⟩ ⟨h1, h2⟩
    simp only at h1 h2
    by_cases hi : i < l.length
    · obtain ⟨s, hs⟩ : ∃ s, l[i]? = some s := ⟨_, List.getElem?_eq_getElem hi⟩
      have e1 : decide ((i : Int) < (l.length : Int)) = true := by simp; omega
      have hmem := szL_mem (List.mem_of_getElem? hs)
      have hsz := szS_eq s
      rw [drop_get hs] at h2
      simp only [szL] at h2
      have w1 : IntKind.i64.wrap ((szL s.thn : Int) + (szL s.els : Int)) = ((szL s.thn + szL s.els : Nat) : Int) := by rw [wrap_i64] <;> omega
      have w2 : IntKind.i64.wrap ((acc : Int) + ((szL s.thn + szL s.els : Nat) : Int)) = ((acc + (szL s.thn + szL s.els) : Nat) : Int) := by rw [wrap_i64] <;> omega
      have w3 : IntKind.i64.wrap ((i : Int) + 1) = ((i + 1 : Nat) : Int) := by rw [wrap_i64] <;> omega
      simp only [e1, ne_eq, not_false_eq_true, Option.map_some, Option.map_none, List.map_cons, List.map_nil, Bool.not_true, Bool.not_false, decide_true, decide_false, List.getElem?_cons_zero, List.getElem?_cons_succ, ↓aw1, ↓aw2, ↓aw17, aw3, aw4, aw5, aw6, aw7, aw8, aw9, aw10, aw11, aw12, aw13, aw14, aw15, aw16, aw19, Nat.reduceLeDiff, if_true, if_false, Nat.reduceEqDiff, Nat.reduceAdd, beq_self_eq_true, beq_true, beq_false, Bool.false_eq_true]
      refine Need.mk ⟨by omega, by simp; omega⟩ (Elem.recs (map_get stmtv l i s hs) (by rw [stmtv_eq]; exact ⟨rfl, rfl⟩) ?_)
      simp only [stmtv_eq, List.take_succ_cons, List.take_zero, List.drop_zero, List.drop_succ_cons, getJ, setJ, ne_eq, not_false_eq_true, Option.map_some, Option.map_none, List.map_cons, List.map_nil, Bool.not_true, Bool.not_false, decide_true, decide_false, List.getElem?_cons_zero, List.getElem?_cons_succ, ↓aw1, ↓aw2, ↓aw17, aw3, aw4, aw5, aw6, aw7, aw8, aw9, aw10, aw11, aw12, aw13, aw14, aw15, aw16, aw19, Nat.reduceLeDiff, if_true, if_false, Nat.reduceEqDiff, Nat.reduceAdd, beq_self_eq_true, beq_true, beq_false, Bool.false_eq_true]
      refine EvRF.ret (ih (szL s.thn) (by omega) s.thn (Nat.le_refl _) (by omega) _) ?_
      simp only [List.drop_zero, List.drop_succ_cons, getJ, setJ, ne_eq, not_false_eq_true, Option.map_some, Option.map_none, List.map_cons, List.map_nil, Bool.not_true, Bool.not_false, decide_true, decide_false, List.getElem?_cons_zero, List.getElem?_cons_succ, ↓aw1, ↓aw2, ↓aw17, aw3, aw4, aw5, aw6, aw7, aw8, aw9, aw10, aw11, aw12, aw13, aw14, aw15, aw16, aw19, Nat.reduceLeDiff, if_true, if_false, Nat.reduceEqDiff, Nat.reduceAdd, beq_self_eq_true, beq_true, beq_false, Bool.false_eq_true]
      refine EvRF.ret (ih (szL s.els) (by omega) s.els (Nat.le_refl _) (by omega) _) ?_
      simp only [w1, w2, w3, ne_eq, not_false_eq_true, Option.map_some, Option.map_none, List.map_cons, List.map_nil, Bool.not_true, Bool.not_false, decide_true, decide_false, List.getElem?_cons_zero, List.getElem?_cons_succ, ↓aw1, ↓aw2, ↓aw17, aw3, aw4, aw5, aw6, aw7, aw8, aw9, aw10, aw11, aw12, aw13, aw14, aw15, aw16, aw19, Nat.reduceLeDiff, if_true, if_false, Nat.reduceEqDiff, Nat.reduceAdd, beq_self_eq_true, beq_true, beq_false, Bool.false_eq_true]
      exact ⟨(i + 1, acc + (szL s.thn + szL s.els), J ++ [.cells [i64 s.op, str s.name, argsv s.args, bodyv s.thn, bodyv s.els]]), ⟨by simp only; omega, by simp only; omega⟩, by simp only; omega, weak_of (by simp) (by simp [look])⟩
    · have e1 : decide ((i : Int) < (l.length : Int)) = false := by simp; omega
      have hi' : i = l.length := by omega
      subst hi'
      rw [List.drop_length] at h2
      simp only [szL] at h2
      obtain rfl : acc = szL l := by omega
      simp only [e1, ne_eq, not_false_eq_true, Option.map_some, Option.map_none, List.map_cons, List.map_nil, Bool.not_true, Bool.not_false, decide_true, decide_false, List.getElem?_cons_zero, List.getElem?_cons_succ, ↓aw1, ↓aw2, ↓aw17, aw3, aw4, aw5, aw6, aw7, aw8, aw9, aw10, aw11, aw12, aw13, aw14, aw15, aw16, aw19, Nat.reduceLeDiff, if_true, if_false, Nat.reduceEqDiff, Nat.reduceAdd, beq_self_eq_true, beq_true, beq_false, Bool.false_eq_true]
      exact Fin.same hcl rfl ⟨rfl, rfl⟩

theorem refsize_ev : ∀ (k : Nat) (l : List Stmt), szL l ≤ k → szL l < 2 ^ 60 → ∀ (h : List AObj), EvR E0 29 [bodyv l] h (i64 (szL l)) := by
  intro k
  induction k using Nat.strongRecOn with
  | _ k ih =>
    intro l hk hb h
    refine ev_of (fn := Tryd.f29) (hs := []) Tryd.func29 c29 (by simp) fun hcl => ?_
    have hlen := szL_len l
    simp only [ac29, List.length_map, ne_eq, not_false_eq_true, Option.map_some, Option.map_none, List.map_cons, List.map_nil, Bool.not_true, Bool.not_false, decide_true, decide_false, List.getElem?_cons_zero, List.getElem?_cons_succ, ↓aw1, ↓aw2, ↓aw17, aw3, aw4, aw5, aw6, aw7, aw8, aw9, aw10, aw11, aw12, aw13, aw14, aw15, aw16, aw19, Nat.reduceLeDiff, if_true, if_false, Nat.reduceEqDiff, Nat.reduceAdd, beq_self_eq_true, beq_true, beq_false, Bool.false_eq_true]
    refine LoopF.by (α := Nat × Nat) (fun x => ⟨[(0, bodyv l), (3, i64 x.2), (4, i64 x.1)], h⟩) (fun x => l.length - x.1)
      (fun x => x.1 ≤ l.length ∧ x.2 + szL (l.drop x.1) = szL l + (l.length - x.1)) (0, l.length) ⟨by omega, by simp; omega⟩ (weak_of (by simp) (by simp [look])) ?_
    rintro ⟨i, acc⟩ ⟨h1, h2⟩
    simp only at h1 h2
    by_cases hi : i < l.length
    · obtain ⟨s, hs⟩ : ∃ s, l[i]? = some s := ⟨_, List.getElem?_eq_getElem hi⟩
      have e1 : decide ((i : Int) < (l.length : Int)) = true := by simp; omega
      have hmem := szL_mem (List.mem_of_getElem? hs)
      have hsz := szS_eq s
      rw [drop_get hs] at h2
      simp only [szL] at h2
      have w1 : IntKind.i64.wrap ((acc : Int) + (szL s.thn : Int)) = ((acc + szL s.thn : Nat) : Int) := by rw [wrap_i64] <;> omega
      have w2 : IntKind.i64.wrap (((acc + szL s.thn : Nat) : Int) + (szL s.els : Int)) = ((acc + szL s.thn + szL s.els : Nat) : Int) := by rw [wrap_i64] <;> omega
      have w12 : IntKind.i64.wrap (IntKind.i64.wrap ((acc : Int) + (szL s.thn : Int)) + (szL s.els : Int)) = (acc : Int) + (szL s.thn : Int) + (szL s.els : Int) := by rw [w1, w2]; simp
      have w3 : IntKind.i64.wrap ((i : Int) + 1) = ((i + 1 : Nat) : Int) := by rw [wrap_i64] <;> omega
      simp only [e1, List.length_map, ne_eq, not_false_eq_true, Option.map_some, Option.map_none, List.map_cons, List.map_nil, Bool.not_true, Bool.not_false, decide_true, decide_false, List.getElem?_cons_zero, List.getElem?_cons_succ, ↓aw1, ↓aw2, ↓aw17, aw3, aw4, aw5, aw6, aw7, aw8, aw9, aw10, aw11, aw12, aw13, aw14, aw15, aw16, aw19, Nat.reduceLeDiff, if_true, if_false, Nat.reduceEqDiff, Nat.reduceAdd, beq_self_eq_true, beq_true, beq_false, Bool.false_eq_true]
      refine Need.mk ⟨by omega, by simp; omega⟩ (Elem.recs (map_get stmtv l i s hs) (by rw [stmtv_eq]; exact ⟨rfl, rfl⟩) ?_)
      simp only [stmtv_eq, List.take_succ_cons, List.take_zero, List.drop_zero, List.drop_succ_cons, ne_eq, not_false_eq_true, Option.map_some, Option.map_none, List.map_cons, List.map_nil, Bool.not_true, Bool.not_false, decide_true, decide_false, List.getElem?_cons_zero, List.getElem?_cons_succ, ↓aw1, ↓aw2, ↓aw17, aw3, aw4, aw5, aw6, aw7, aw8, aw9, aw10, aw11, aw12, aw13, aw14, aw15, aw16, aw19, Nat.reduceLeDiff, if_true, if_false, Nat.reduceEqDiff, Nat.reduceAdd, beq_self_eq_true, beq_true, beq_false, Bool.false_eq_true]
      refine EvRF.ret (ih (szL s.thn) (by omega) s.thn (Nat.le_refl _) (by omega) _) ?_
      simp only [w1, ne_eq, not_false_eq_true, Option.map_some, Option.map_none, List.map_cons, List.map_nil, Bool.not_true, Bool.not_false, decide_true, decide_false, List.getElem?_cons_zero, List.getElem?_cons_succ, ↓aw1, ↓aw2, ↓aw17, aw3, aw4, aw5, aw6, aw7, aw8, aw9, aw10, aw11, aw12, aw13, aw14, aw15, aw16, aw19, Nat.reduceLeDiff, if_true, if_false, Nat.reduceEqDiff, Nat.reduceAdd, beq_self_eq_true, beq_true, beq_false, Bool.false_eq_true]
      refine Need.mk ⟨by omega, by simp; omega⟩ (Elem.recs (map_get stmtv l i s hs) (by rw [stmtv_eq]; exact ⟨rfl, rfl⟩) ?_)
      simp only [stmtv_eq, List.take_succ_cons, List.take_zero, List.drop_zero, List.drop_succ_cons, ne_eq, not_false_eq_true, Option.map_some, Option.map_none, List.map_cons, List.map_nil, Bool.not_true, Bool.not_false, decide_true, decide_false, List.getElem?_cons_zero, List.getElem?_cons_succ, ↓aw1, ↓aw2, ↓aw17, aw3, aw4, aw5, aw6, aw7, aw8, aw9, aw10, aw11, aw12, aw13, aw14, aw15, aw16, aw19, Nat.reduceLeDiff, if_true, if_false, Nat.reduceEqDiff, Nat.reduceAdd, beq_self_eq_true, beq_true, beq_false, Bool.false_eq_true]
      refine EvRF.ret (ih (szL s.els) (by omega) s.els (Nat.le_refl _) (by omega) _) ?_
      simp only [w2, w3, ne_eq, not_false_eq_true, Option.map_some, Option.map_none, List.map_cons, List.map_nil, Bool.not_true, Bool.not_false, decide_true, decide_false, List.getElem?_cons_zero, List.getElem?_cons_succ, ↓aw1, ↓aw2, ↓aw17, aw3, aw4, aw5, aw6, aw7, aw8, aw9, aw10, aw11, aw12, aw13, aw14, aw15, aw16, aw19, Nat.reduceLeDiff, if_true, if_false, Nat.reduceEqDiff, Nat.reduceAdd, beq_self_eq_true, beq_true, beq_false, Bool.false_eq_true]
      exact ⟨(i + 1, acc + szL s.thn + szL s.els), ⟨by simp only; omega, by simp only; omega⟩, by simp only; omega, weak_of (by simp) (by simp [look, w12])⟩
    · have e1 : decide ((i : Int) < (l.length : Int)) = false := by simp; omega
      have hi' : i = l.length := by omega
      subst hi'
      rw [List.drop_length] at h2
      simp only [szL] at h2
      obtain rfl : acc = szL l := by omega
      simp only [e1, List.length_map, ne_eq, not_false_eq_true, Option.map_some, Option.map_none, List.map_cons, List.map_nil, Bool.not_true, Bool.not_false, decide_true, decide_false, List.getElem?_cons_zero, List.getElem?_cons_succ, ↓aw1, ↓aw2, ↓aw17, aw3, aw4, aw5, aw6, aw7, aw8, aw9, aw10, aw11, aw12, aw13, aw14, aw15, aw16, aw19, Nat.reduceLeDiff, if_true, if_false, Nat.reduceEqDiff, Nat.reduceAdd, beq_self_eq_true, beq_true, beq_false, Bool.false_eq_true]
      exact Fin.same0 hcl rfl ⟨rfl, rfl⟩

def szF : List Fun → Nat
  | [] => 0
  | f :: l => 1 + szL f.body + szF l
theorem szF_len : ∀ (l : List Fun), l.length ≤ szF l
  | [] => by simp [szF]
  | s :: l => by have := szF_len l; simp only [szF, List.length_cons]; omega
theorem szF_mem : ∀ {l : List Fun} {s : Fun}, s ∈ l → szL s.body < szF l
  | x :: l, s, h => by
    rcases List.mem_cons.1 h with rfl | h
    · simp only [szF]; omega
    · have := szF_mem h; simp only [szF]; omega

theorem fsize_ev (l : List Fun) (hb : szF l < 2 ^ 60) (h : List AObj) : EvR E0 13 [funsv l] h (i64 (szF l)) := by
  refine ev_of (fn := Tryd.f13) (hs := []) Tryd.func13 c13 (by simp) fun hcl => ?_
  have hlen := szF_len l
  simp only [ac13, List.length_map, ne_eq, not_false_eq_true, Option.map_some, Option.map_none, List.map_cons, List.map_nil, Bool.not_true, Bool.not_false, decide_true, decide_false, List.getElem?_cons_zero, List.getElem?_cons_succ, ↓aw1, ↓aw2, ↓aw17, aw3, aw4, aw5, aw6, aw7, aw8, aw9, aw10, aw11, aw12, aw13, aw14, aw15, aw16, aw19, Nat.reduceLeDiff, if_true, if_false, Nat.reduceEqDiff, Nat.reduceAdd, beq_self_eq_true, beq_true, beq_false, Bool.false_eq_true]
  refine LoopF.by (α := Nat × Nat × List AObj) (fun x => ⟨[(3, i64 x.2.1), (8, funsv l), (9, i64 l.length), (10, i64 x.1)], h ++ x.2.2⟩) (fun x => l.length - x.1)
    (fun x => x.1 ≤ l.length ∧ x.2.1 + szF (l.drop x.1) = szF l + (l.length - x.1)) (0, l.length, []) ⟨by omega, by simp; omega⟩ (weak_of (by simp) (by simp [look])) ?_
  rintro ⟨i, acc, J⟩ ⟨h1, h2⟩
  simp only at h1 h2
  by_cases hi : i < l.length
  · obtain ⟨s, hs⟩ : ∃ s, l[i]? = some s := ⟨_, List.getElem?_eq_getElem hi⟩
    have e1 : decide ((i : Int) < (l.length : Int)) = true := by simp; omega
    have hmem := szF_mem (List.mem_of_getElem? hs)
    rw [drop_get hs] at h2
    simp only [szF] at h2
    have w2 : IntKind.i64.wrap ((acc : Int) + (szL s.body : Int)) = ((acc + szL s.body : Nat) : Int) := by rw [wrap_i64] <;> omega
    have w3 : IntKind.i64.wrap ((i : Int) + 1) = ((i + 1 : Nat) : Int) := by rw [wrap_i64] <;> omega
    simp only [e1, ne_eq, not_false_eq_true, Option.map_some, Option.map_none, List.map_cons, List.map_nil, Bool.not_true, Bool.not_false, decide_true, decide_false, List.getElem?_cons_zero, List.getElem?_cons_succ, ↓aw1, ↓aw2, ↓aw17, aw3, aw4, aw5, aw6, aw7, aw8, aw9, aw10, aw11, aw12, aw13, aw14, aw15, aw16, aw19, Nat.reduceLeDiff, if_true, if_false, Nat.reduceEqDiff, Nat.reduceAdd, beq_self_eq_true, beq_true, beq_false, Bool.false_eq_true]
    refine Need.mk ⟨by omega, by simp; omega⟩ (Elem.recs (map_get funv l i s hs) ⟨rfl, rfl⟩ ?_)
    simp only [funv, List.take_succ_cons, List.take_zero, List.drop_zero, List.drop_succ_cons, getJ, setJ, ne_eq, not_false_eq_true, Option.map_some, Option.map_none, List.map_cons, List.map_nil, Bool.not_true, Bool.not_false, decide_true, decide_false, List.getElem?_cons_zero, List.getElem?_cons_succ, ↓aw1, ↓aw2, ↓aw17, aw3, aw4, aw5, aw6, aw7, aw8, aw9, aw10, aw11, aw12, aw13, aw14, aw15, aw16, aw19, Nat.reduceLeDiff, if_true, if_false, Nat.reduceEqDiff, Nat.reduceAdd, beq_self_eq_true, beq_true, beq_false, Bool.false_eq_true]
    refine EvF.ret (size_ev _ s.body (Nat.le_refl _) (by omega) _) ?_
    simp only [w2, w3, ne_eq, not_false_eq_true, Option.map_some, Option.map_none, List.map_cons, List.map_nil, Bool.not_true, Bool.not_false, decide_true, decide_false, List.getElem?_cons_zero, List.getElem?_cons_succ, ↓aw1, ↓aw2, ↓aw17, aw3, aw4, aw5, aw6, aw7, aw8, aw9, aw10, aw11, aw12, aw13, aw14, aw15, aw16, aw19, Nat.reduceLeDiff, if_true, if_false, Nat.reduceEqDiff, Nat.reduceAdd, beq_self_eq_true, beq_true, beq_false, Bool.false_eq_true]
    exact ⟨(i + 1, acc + szL s.body, J ++ [.cells [str s.name, bodyv s.body]]), ⟨by simp only; omega, by simp only; omega⟩, by simp only; omega, weak_of (by simp) (by simp [look])⟩
  · have e1 : decide ((i : Int) < (l.length : Int)) = false := by simp; omega
    have hi' : i = l.length := by omega
    subst hi'
    rw [List.drop_length] at h2
    simp only [szF] at h2
    obtain rfl : acc = szF l := by omega
    simp only [e1, ne_eq, not_false_eq_true, Option.map_some, Option.map_none, List.map_cons, List.map_nil, Bool.not_true, Bool.not_false, decide_true, decide_false, List.getElem?_cons_zero, List.getElem?_cons_succ, ↓aw1, ↓aw2, ↓aw17, aw3, aw4, aw5, aw6, aw7, aw8, aw9, aw10, aw11, aw12, aw13, aw14, aw15, aw16, aw19, Nat.reduceLeDiff, if_true, if_false, Nat.reduceEqDiff, Nat.reduceAdd, beq_self_eq_true, beq_true, beq_false, Bool.false_eq_true]
    exact Fin.same hcl rfl ⟨rfl, rfl⟩

theorem rfsize_ev (l : List Fun) (hb : szF l < 2 ^ 60) (h : List AObj) : EvR E0 14 [funsv l] h (i64 (szF l)) := by
  refine ev_of (fn := Tryd.f14) (hs := []) Tryd.func14 c14 (by simp) fun hcl => ?_
  have hlen := szF_len l
  simp only [ac14, List.length_map, ne_eq, not_false_eq_true, Option.map_some, Option.map_none, List.map_cons, List.map_nil, Bool.not_true, Bool.not_false, decide_true, decide_false, List.getElem?_cons_zero, List.getElem?_cons_succ, ↓aw1, ↓aw2, ↓aw17, aw3, aw4, aw5, aw6, aw7, aw8, aw9, aw10, aw11, aw12, aw13, aw14, aw15, aw16, aw19, Nat.reduceLeDiff, if_true, if_false, Nat.reduceEqDiff, Nat.reduceAdd, beq_self_eq_true, beq_true, beq_false, Bool.false_eq_true]
  refine LoopF.by (α := Nat × Nat) (fun x => ⟨[(0, funsv l), (3, i64 x.2), (4, i64 x.1)], h⟩) (fun x => l.length - x.1)
    (fun x => x.1 ≤ l.length ∧ x.2 + szF (l.drop x.1) = szF l + (l.length - x.1)) (0, l.length) ⟨by omega, by simp; omega⟩ (weak_of (by simp) (by simp [look])) ?_
  rintro ⟨i, acc⟩ ⟨h1, h2⟩
  simp only at h1 h2
  by_cases hi : i < l.length
  · obtain ⟨s, hs⟩ : ∃ s, l[i]? = some s := ⟨_, List.getElem?_eq_getElem hi⟩
    have e1 : decide ((i : Int) < (l.length : Int)) = true := by simp; omega
    have hmem := szF_mem (List.mem_of_getElem? hs)
    rw [drop_get hs] at h2
    simp only [szF] at h2
    have w2 : IntKind.i64.wrap ((acc : Int) + (szL s.body : Int)) = ((acc + szL s.body : Nat) : Int) := by rw [wrap_i64] <;> omega
    have w3 : IntKind.i64.wrap ((i : Int) + 1) = ((i + 1 : Nat) : Int) := by rw [wrap_i64] <;> omega
    simp only [e1, List.length_map, ne_eq, not_false_eq_true, Option.map_some, Option.map_none, List.map_cons, List.map_nil, Bool.not_true, Bool.not_false, decide_true, decide_false, List.getElem?_cons_zero, List.getElem?_cons_succ, ↓aw1, ↓aw2, ↓aw17, aw3, aw4, aw5, aw6, aw7, aw8, aw9, aw10, aw11, aw12, aw13, aw14, aw15, aw16, aw19, Nat.reduceLeDiff, if_true, if_false, Nat.reduceEqDiff, Nat.reduceAdd, beq_self_eq_true, beq_true, beq_false, Bool.false_eq_true]
    refine Need.mk ⟨by omega, by simp; omega⟩ (Elem.recs (map_get funv l i s hs) ⟨rfl, rfl⟩ ?_)
    simp only [funv, List.take_succ_cons, List.take_zero, List.drop_zero, List.drop_succ_cons, ne_eq, not_false_eq_true, Option.map_some, Option.map_none, List.map_cons, List.map_nil, Bool.not_true, Bool.not_false, decide_true, decide_false, List.getElem?_cons_zero, List.getElem?_cons_succ, ↓aw1, ↓aw2, ↓aw17, aw3, aw4, aw5, aw6, aw7, aw8, aw9, aw10, aw11, aw12, aw13, aw14, aw15, aw16, aw19, Nat.reduceLeDiff, if_true, if_false, Nat.reduceEqDiff, Nat.reduceAdd, beq_self_eq_true, beq_true, beq_false, Bool.false_eq_true]
    refine EvF.ret (refsize_ev _ s.body (Nat.le_refl _) (by omega) _) ?_
    simp only [w2, w3, ne_eq, not_false_eq_true, Option.map_some, Option.map_none, List.map_cons, List.map_nil, Bool.not_true, Bool.not_false, decide_true, decide_false, List.getElem?_cons_zero, List.getElem?_cons_succ, ↓aw1, ↓aw2, ↓aw17, aw3, aw4, aw5, aw6, aw7, aw8, aw9, aw10, aw11, aw12, aw13, aw14, aw15, aw16, aw19, Nat.reduceLeDiff, if_true, if_false, Nat.reduceEqDiff, Nat.reduceAdd, beq_self_eq_true, beq_true, beq_false, Bool.false_eq_true]
    exact ⟨(i + 1, acc + szL s.body), ⟨by simp only; omega, by simp only; omega⟩, by simp only; omega, weak_of (by simp) (by simp [look])⟩
  · have e1 : decide ((i : Int) < (l.length : Int)) = false := by simp; omega
    have hi' : i = l.length := by omega
    subst hi'
    rw [List.drop_length] at h2
    simp only [szF] at h2
    obtain rfl : acc = szF l := by omega
    simp only [e1, List.length_map, ne_eq, not_false_eq_true, Option.map_some, Option.map_none, List.map_cons, List.map_nil, Bool.not_true, Bool.not_false, decide_true, decide_false, List.getElem?_cons_zero, List.getElem?_cons_succ, ↓aw1, ↓aw2, ↓aw17, aw3, aw4, aw5, aw6, aw7, aw8, aw9, aw10, aw11, aw12, aw13, aw14, aw15, aw16, aw19, Nat.reduceLeDiff, if_true, if_false, Nat.reduceEqDiff, Nat.reduceAdd, beq_self_eq_true, beq_true, beq_false, Bool.false_eq_true]
    exact Fin.same0 hcl rfl ⟨rfl, rfl⟩
end Go.Abs.Fr

namespace Go.Abs.Fr
open Go Go.Abs Go.Proofs
set_option linter.unusedSimpArgs false
set_option maxRecDepth 100000

/-- Has a text a hyphen? -/
def hy (s : ByteArray) : Bool := s.data.toList.contains 45

theorem indexByte_contains : ∀ (l : List UInt8) (c : UInt8), decide (0 ≤ Lib.indexByte l c) = l.contains c
  | [], c => by simp [Lib.indexByte]
  | b :: l, c => by
    have ih := indexByte_contains l c
    have hge := Lib.indexByte_ge l c
    unfold Lib.indexByte
    by_cases hb : b = c
    · subst hb; simp
    · rw [if_neg (by simpa using hb)]
      rw [List.contains_cons, show (c == b) = false by simpa using Ne.symm hb, Bool.false_or, ← ih]
      by_cases h1 : Lib.indexByte l c = -1
      · rw [if_pos (by simpa using h1), h1]
      · rw [if_neg (by simpa using h1)]
        rw [decide_eq_decide]; omega

theorem contains_ev (s : ByteArray) (h : List AObj) : EvR E0 37 [str s, str ⟨#[45]⟩] h (boolv (hy s)) := by
  refine ev_of_kit (fn := Tryd.f37) (c := (Tryd.f37.body).getD .skip) Tryd.func37 (by kernel_rfl) (by kernel_rfl) fun w g vs hg hgl ha => ?_
  have h1 := args_get ha
  obtain ⟨v, r, e1, h2, h3⟩ := Reps.cons.1 h1
  obtain ⟨v', r', e2, h4, h5⟩ := Reps.cons.1 h3
  rw [Reps.nil.1 h5] at e2
  rw [Rep.lit_iff] at h2 h4
  subst h2 h4 e2
  obtain rfl : vs = #[.string s, .string ⟨#[45]⟩] := Array.ext' e1
  refine (Tryd.strings_Contains_one s 45 w).mono ?_
  rintro e w' ⟨rfl, rfl⟩
  refine ⟨_, rfl, Go.RowKit.Below.refl _ _, fun g' => ?_⟩
  rw [indexByte_contains]
  simp [Rep, hy]

/-- Is a text a word that nobody may be called by? -/
def kw (s : ByteArray) : Bool := decide (s = ⟨#[102, 117, 110, 99]⟩) || (decide (s = ⟨#[105, 102]⟩) || (decide (s = ⟨#[101, 108, 115, 101]⟩) || (decide (s = ⟨#[102, 111, 114]⟩) || decide (s = ⟨#[99]⟩))))
def lowr (s : ByteArray) : Bool := whl s.data.toList && !lt97 (pk s.data.toList 0)
def uppr (s : ByteArray) : Bool := whl s.data.toList && lt97 (pk s.data.toList 0)
def isFn (s : ByteArray) : Bool := !kw s && (lowr s && !hy s)
def isMe (s : ByteArray) : Bool := uppr s && !hy s

theorem function_ev (s : ByteArray) (h : List AObj) (hsz : s.size < 2 ^ 60) : EvR E0 20 [str s] h (boolv (isFn s)) := by
  refine ev_of (fn := Tryd.f20) (hs := []) Tryd.func20 c20 (by simp) fun hcl => ?_
  simp only [ac20, ne_eq, not_false_eq_true, Option.map_some, Option.map_none, List.map_cons, List.map_nil, Bool.not_true, Bool.not_false, decide_true, decide_false, List.getElem?_cons_zero, List.getElem?_cons_succ, ↓aw1, ↓aw2, ↓aw17, aw3, aw4, aw5, aw6, aw7, aw8, aw9, aw10, aw11, aw12, aw13, aw14, aw15, aw16, aw19, Nat.reduceLeDiff, if_true, if_false, Nat.reduceEqDiff, Nat.reduceAdd, beq_self_eq_true, beq_true, beq_false, Bool.false_eq_true]
  have hlo := lower_ev s h hsz
  cases k1 : decide (s = ⟨#[102, 117, 110, 99]⟩)
  · cases k2 : decide (s = ⟨#[105, 102]⟩)
    · cases k3 : decide (s = ⟨#[101, 108, 115, 101]⟩)
      · cases k4 : decide (s = ⟨#[102, 111, 114]⟩)
        · cases k5 : decide (s = ⟨#[99]⟩)
          · simp only [k1, k2, k3, k4, k5, ne_eq, not_false_eq_true, Option.map_some, Option.map_none, List.map_cons, List.map_nil, Bool.not_true, Bool.not_false, decide_true, decide_false, List.getElem?_cons_zero, List.getElem?_cons_succ, ↓aw1, ↓aw2, ↓aw17, aw3, aw4, aw5, aw6, aw7, aw8, aw9, aw10, aw11, aw12, aw13, aw14, aw15, aw16, aw19, Nat.reduceLeDiff, if_true, if_false, Nat.reduceEqDiff, Nat.reduceAdd, beq_self_eq_true, beq_true, beq_false, Bool.false_eq_true]
            refine EvF.ret hlo ?_
            cases hL : lowr s
            · have hL' : (whl s.data.toList && !lt97 (pk s.data.toList 0)) = false := hL
              simp only [hL', ne_eq, not_false_eq_true, Option.map_some, Option.map_none, List.map_cons, List.map_nil, Bool.not_true, Bool.not_false, decide_true, decide_false, List.getElem?_cons_zero, List.getElem?_cons_succ, ↓aw1, ↓aw2, ↓aw17, aw3, aw4, aw5, aw6, aw7, aw8, aw9, aw10, aw11, aw12, aw13, aw14, aw15, aw16, aw19, Nat.reduceLeDiff, if_true, if_false, Nat.reduceEqDiff, Nat.reduceAdd, beq_self_eq_true, beq_true, beq_false, Bool.false_eq_true]
              exact Fin.same0 hcl rfl ⟨by simp [isFn, kw, k1, k2, k3, k4, k5, hL], rfl⟩
            · have hL' : (whl s.data.toList && !lt97 (pk s.data.toList 0)) = true := hL
              simp only [hL', ne_eq, not_false_eq_true, Option.map_some, Option.map_none, List.map_cons, List.map_nil, Bool.not_true, Bool.not_false, decide_true, decide_false, List.getElem?_cons_zero, List.getElem?_cons_succ, ↓aw1, ↓aw2, ↓aw17, aw3, aw4, aw5, aw6, aw7, aw8, aw9, aw10, aw11, aw12, aw13, aw14, aw15, aw16, aw19, Nat.reduceLeDiff, if_true, if_false, Nat.reduceEqDiff, Nat.reduceAdd, beq_self_eq_true, beq_true, beq_false, Bool.false_eq_true]
              refine EvF.ret (contains_ev s h) ?_
              simp only [ne_eq, not_false_eq_true, Option.map_some, Option.map_none, List.map_cons, List.map_nil, Bool.not_true, Bool.not_false, decide_true, decide_false, List.getElem?_cons_zero, List.getElem?_cons_succ, ↓aw1, ↓aw2, ↓aw17, aw3, aw4, aw5, aw6, aw7, aw8, aw9, aw10, aw11, aw12, aw13, aw14, aw15, aw16, aw19, Nat.reduceLeDiff, if_true, if_false, Nat.reduceEqDiff, Nat.reduceAdd, beq_self_eq_true, beq_true, beq_false, Bool.false_eq_true]
              exact Fin.same0 hcl rfl ⟨by simp [isFn, kw, k1, k2, k3, k4, k5, hL], rfl⟩
          · simp only [k1, k2, k3, k4, k5, ne_eq, not_false_eq_true, Option.map_some, Option.map_none, List.map_cons, List.map_nil, Bool.not_true, Bool.not_false, decide_true, decide_false, List.getElem?_cons_zero, List.getElem?_cons_succ, ↓aw1, ↓aw2, ↓aw17, aw3, aw4, aw5, aw6, aw7, aw8, aw9, aw10, aw11, aw12, aw13, aw14, aw15, aw16, aw19, Nat.reduceLeDiff, if_true, if_false, Nat.reduceEqDiff, Nat.reduceAdd, beq_self_eq_true, beq_true, beq_false, Bool.false_eq_true]
            exact Fin.same0 hcl rfl ⟨by simp [isFn, kw, k1, k2, k3, k4, k5], rfl⟩
        · simp only [k1, k2, k3, k4, ne_eq, not_false_eq_true, Option.map_some, Option.map_none, List.map_cons, List.map_nil, Bool.not_true, Bool.not_false, decide_true, decide_false, List.getElem?_cons_zero, List.getElem?_cons_succ, ↓aw1, ↓aw2, ↓aw17, aw3, aw4, aw5, aw6, aw7, aw8, aw9, aw10, aw11, aw12, aw13, aw14, aw15, aw16, aw19, Nat.reduceLeDiff, if_true, if_false, Nat.reduceEqDiff, Nat.reduceAdd, beq_self_eq_true, beq_true, beq_false, Bool.false_eq_true]
          exact Fin.same0 hcl rfl ⟨by simp [isFn, kw, k1, k2, k3, k4], rfl⟩
      · simp only [k1, k2, k3, ne_eq, not_false_eq_true, Option.map_some, Option.map_none, List.map_cons, List.map_nil, Bool.not_true, Bool.not_false, decide_true, decide_false, List.getElem?_cons_zero, List.getElem?_cons_succ, ↓aw1, ↓aw2, ↓aw17, aw3, aw4, aw5, aw6, aw7, aw8, aw9, aw10, aw11, aw12, aw13, aw14, aw15, aw16, aw19, Nat.reduceLeDiff, if_true, if_false, Nat.reduceEqDiff, Nat.reduceAdd, beq_self_eq_true, beq_true, beq_false, Bool.false_eq_true]
        exact Fin.same0 hcl rfl ⟨by simp [isFn, kw, k1, k2, k3], rfl⟩
    · simp only [k1, k2, ne_eq, not_false_eq_true, Option.map_some, Option.map_none, List.map_cons, List.map_nil, Bool.not_true, Bool.not_false, decide_true, decide_false, List.getElem?_cons_zero, List.getElem?_cons_succ, ↓aw1, ↓aw2, ↓aw17, aw3, aw4, aw5, aw6, aw7, aw8, aw9, aw10, aw11, aw12, aw13, aw14, aw15, aw16, aw19, Nat.reduceLeDiff, if_true, if_false, Nat.reduceEqDiff, Nat.reduceAdd, beq_self_eq_true, beq_true, beq_false, Bool.false_eq_true]
      exact Fin.same0 hcl rfl ⟨by simp [isFn, kw, k1, k2], rfl⟩
  · simp only [k1, ne_eq, not_false_eq_true, Option.map_some, Option.map_none, List.map_cons, List.map_nil, Bool.not_true, Bool.not_false, decide_true, decide_false, List.getElem?_cons_zero, List.getElem?_cons_succ, ↓aw1, ↓aw2, ↓aw17, aw3, aw4, aw5, aw6, aw7, aw8, aw9, aw10, aw11, aw12, aw13, aw14, aw15, aw16, aw19, Nat.reduceLeDiff, if_true, if_false, Nat.reduceEqDiff, Nat.reduceAdd, beq_self_eq_true, beq_true, beq_false, Bool.false_eq_true]
    exact Fin.same0 hcl rfl ⟨by simp [isFn, kw, k1], rfl⟩

theorem method_ev (s : ByteArray) (h : List AObj) (hsz : s.size < 2 ^ 60) : EvR E0 54 [str s] h (boolv (isMe s)) := by
  refine ev_of (fn := Tryd.f54) (hs := []) Tryd.func54 c54 (by simp) fun hcl => ?_
  simp only [ac54, ne_eq, not_false_eq_true, Option.map_some, Option.map_none, List.map_cons, List.map_nil, Bool.not_true, Bool.not_false, decide_true, decide_false, List.getElem?_cons_zero, List.getElem?_cons_succ, ↓aw1, ↓aw2, ↓aw17, aw3, aw4, aw5, aw6, aw7, aw8, aw9, aw10, aw11, aw12, aw13, aw14, aw15, aw16, aw19, Nat.reduceLeDiff, if_true, if_false, Nat.reduceEqDiff, Nat.reduceAdd, beq_self_eq_true, beq_true, beq_false, Bool.false_eq_true]
  refine EvF.ret (upper_ev s h hsz) ?_
  cases hL : uppr s
  · have hL' : (whl s.data.toList && lt97 (pk s.data.toList 0)) = false := hL
    simp only [hL', ne_eq, not_false_eq_true, Option.map_some, Option.map_none, List.map_cons, List.map_nil, Bool.not_true, Bool.not_false, decide_true, decide_false, List.getElem?_cons_zero, List.getElem?_cons_succ, ↓aw1, ↓aw2, ↓aw17, aw3, aw4, aw5, aw6, aw7, aw8, aw9, aw10, aw11, aw12, aw13, aw14, aw15, aw16, aw19, Nat.reduceLeDiff, if_true, if_false, Nat.reduceEqDiff, Nat.reduceAdd, beq_self_eq_true, beq_true, beq_false, Bool.false_eq_true]
    exact Fin.same0 hcl rfl ⟨by simp [isMe, hL], rfl⟩
  · have hL' : (whl s.data.toList && lt97 (pk s.data.toList 0)) = true := hL
    simp only [hL', ne_eq, not_false_eq_true, Option.map_some, Option.map_none, List.map_cons, List.map_nil, Bool.not_true, Bool.not_false, decide_true, decide_false, List.getElem?_cons_zero, List.getElem?_cons_succ, ↓aw1, ↓aw2, ↓aw17, aw3, aw4, aw5, aw6, aw7, aw8, aw9, aw10, aw11, aw12, aw13, aw14, aw15, aw16, aw19, Nat.reduceLeDiff, if_true, if_false, Nat.reduceEqDiff, Nat.reduceAdd, beq_self_eq_true, beq_true, beq_false, Bool.false_eq_true]
    refine EvF.ret (contains_ev s h) ?_
    simp only [ne_eq, not_false_eq_true, Option.map_some, Option.map_none, List.map_cons, List.map_nil, Bool.not_true, Bool.not_false, decide_true, decide_false, List.getElem?_cons_zero, List.getElem?_cons_succ, ↓aw1, ↓aw2, ↓aw17, aw3, aw4, aw5, aw6, aw7, aw8, aw9, aw10, aw11, aw12, aw13, aw14, aw15, aw16, aw19, Nat.reduceLeDiff, if_true, if_false, Nat.reduceEqDiff, Nat.reduceAdd, beq_self_eq_true, beq_true, beq_false, Bool.false_eq_true]
    exact Fin.same0 hcl rfl ⟨by simp [isMe, hL], rfl⟩

theorem isC45 (c : UInt8) : isC 45 c = (45 == c) := by
  have := all_u8 (p := fun c => isC 45 c == (45 == c)) (by decide +kernel) c
  simpa using this

theorem plain_ev (s : ByteArray) (h : List AObj) (hsz : s.size < 2 ^ 60) : EvR E0 42 [str s] h (boolv (!hy s)) := by
  refine ev_of (fn := Tryd.f42) (hs := []) Tryd.func42 c42 (by simp) fun hcl => ?_
  simp only [ac42, ne_eq, not_false_eq_true, Option.map_some, Option.map_none, List.map_cons, List.map_nil, Bool.not_true, Bool.not_false, decide_true, decide_false, List.getElem?_cons_zero, List.getElem?_cons_succ, ↓aw1, ↓aw2, ↓aw17, aw3, aw4, aw5, aw6, aw7, aw8, aw9, aw10, aw11, aw12, aw13, aw14, aw15, aw16, aw19, Nat.reduceLeDiff, if_true, if_false, Nat.reduceEqDiff, Nat.reduceAdd, beq_self_eq_true, beq_true, beq_false, Bool.false_eq_true]
  have hlen : s.data.toList.length = s.size := by simp
  refine LoopF.by (α := Nat) (fun i => ⟨[(0, str s), (3, i64 i)], h⟩) (fun i => s.size - i)
    (fun i => i ≤ s.size ∧ hy s = (s.data.toList.drop i).contains 45) 0 ⟨by omega, rfl⟩ (weak_of rfl (by simp [look])) ?_
  rintro i ⟨h1, h2⟩
  by_cases hi : i < s.size
  · have e1 : decide ((i : Int) < (s.size : Int)) = true := by simp; omega
    have w3 : IntKind.i64.wrap ((i : Int) + 1) = ((i + 1 : Nat) : Int) := by rw [wrap_i64] <;> omega
    simp only [e1, ne_eq, not_false_eq_true, Option.map_some, Option.map_none, List.map_cons, List.map_nil, Bool.not_true, Bool.not_false, decide_true, decide_false, List.getElem?_cons_zero, List.getElem?_cons_succ, ↓aw1, ↓aw2, ↓aw17, aw3, aw4, aw5, aw6, aw7, aw8, aw9, aw10, aw11, aw12, aw13, aw14, aw15, aw16, aw19, Nat.reduceLeDiff, if_true, if_false, Nat.reduceEqDiff, Nat.reduceAdd, beq_self_eq_true, beq_true, beq_false, Bool.false_eq_true]
    refine Need.mk ⟨by omega, by simp; omega⟩ fun c hc => ?_
    have hc' : s.data.toList[i]? = some c := by rw [← bytes_get]; exact hc
    rw [drop_get hc', List.contains_cons] at h2
    cases h45 : isC 45 c
    · have h45' : decide ((c.toNat : Int) = 45) = false := h45
      simp only [h45', w3, ne_eq, not_false_eq_true, Option.map_some, Option.map_none, List.map_cons, List.map_nil, Bool.not_true, Bool.not_false, decide_true, decide_false, List.getElem?_cons_zero, List.getElem?_cons_succ, ↓aw1, ↓aw2, ↓aw17, aw3, aw4, aw5, aw6, aw7, aw8, aw9, aw10, aw11, aw12, aw13, aw14, aw15, aw16, aw19, Nat.reduceLeDiff, if_true, if_false, Nat.reduceEqDiff, Nat.reduceAdd, beq_self_eq_true, beq_true, beq_false, Bool.false_eq_true]
      have hne : (45 == c) = false := by rw [← isC45]; exact h45
      rw [hne, Bool.false_or] at h2
      exact ⟨i + 1, ⟨by omega, h2⟩, by omega, weak_of rfl (by simp [look])⟩
    · have h45' : decide ((c.toNat : Int) = 45) = true := h45
      simp only [h45', ne_eq, not_false_eq_true, Option.map_some, Option.map_none, List.map_cons, List.map_nil, Bool.not_true, Bool.not_false, decide_true, decide_false, List.getElem?_cons_zero, List.getElem?_cons_succ, ↓aw1, ↓aw2, ↓aw17, aw3, aw4, aw5, aw6, aw7, aw8, aw9, aw10, aw11, aw12, aw13, aw14, aw15, aw16, aw19, Nat.reduceLeDiff, if_true, if_false, Nat.reduceEqDiff, Nat.reduceAdd, beq_self_eq_true, beq_true, beq_false, Bool.false_eq_true]
      have heq : (45 == c) = true := by rw [← isC45]; exact h45
      rw [heq] at h2
      exact Fin.same0 hcl rfl ⟨by rw [h2]; rfl, rfl⟩
  · have e1 : decide ((i : Int) < (s.size : Int)) = false := by simp; omega
    rw [List.drop_eq_nil_of_le (by omega)] at h2
    simp only [e1, ne_eq, not_false_eq_true, Option.map_some, Option.map_none, List.map_cons, List.map_nil, Bool.not_true, Bool.not_false, decide_true, decide_false, List.getElem?_cons_zero, List.getElem?_cons_succ, ↓aw1, ↓aw2, ↓aw17, aw3, aw4, aw5, aw6, aw7, aw8, aw9, aw10, aw11, aw12, aw13, aw14, aw15, aw16, aw19, Nat.reduceLeDiff, if_true, if_false, Nat.reduceEqDiff, Nat.reduceAdd, beq_self_eq_true, beq_true, beq_false, Bool.false_eq_true]
    exact Fin.same0 hcl rfl ⟨by rw [h2]; rfl, rfl⟩

theorem rmethod_ev (s : ByteArray) (h : List AObj) (hsz : s.size < 2 ^ 60) : EvR E0 43 [str s] h (boolv (isMe s)) := by
  refine ev_of (fn := Tryd.f43) (hs := []) Tryd.func43 c43 (by simp) fun hcl => ?_
  simp only [ac43, ne_eq, not_false_eq_true, Option.map_some, Option.map_none, List.map_cons, List.map_nil, Bool.not_true, Bool.not_false, decide_true, decide_false, List.getElem?_cons_zero, List.getElem?_cons_succ, ↓aw1, ↓aw2, ↓aw17, aw3, aw4, aw5, aw6, aw7, aw8, aw9, aw10, aw11, aw12, aw13, aw14, aw15, aw16, aw19, Nat.reduceLeDiff, if_true, if_false, Nat.reduceEqDiff, Nat.reduceAdd, beq_self_eq_true, beq_true, beq_false, Bool.false_eq_true]
  refine EvF.ret (rupper_ev s h hsz) ?_
  cases hL : uppr s
  · have hL' : (whl s.data.toList && lt97 (pk s.data.toList 0)) = false := hL
    simp only [hL', ne_eq, not_false_eq_true, Option.map_some, Option.map_none, List.map_cons, List.map_nil, Bool.not_true, Bool.not_false, decide_true, decide_false, List.getElem?_cons_zero, List.getElem?_cons_succ, ↓aw1, ↓aw2, ↓aw17, aw3, aw4, aw5, aw6, aw7, aw8, aw9, aw10, aw11, aw12, aw13, aw14, aw15, aw16, aw19, Nat.reduceLeDiff, if_true, if_false, Nat.reduceEqDiff, Nat.reduceAdd, beq_self_eq_true, beq_true, beq_false, Bool.false_eq_true]
    exact Fin.same0 hcl rfl ⟨by simp [isMe, hL], rfl⟩
  · have hL' : (whl s.data.toList && lt97 (pk s.data.toList 0)) = true := hL
    simp only [hL', ne_eq, not_false_eq_true, Option.map_some, Option.map_none, List.map_cons, List.map_nil, Bool.not_true, Bool.not_false, decide_true, decide_false, List.getElem?_cons_zero, List.getElem?_cons_succ, ↓aw1, ↓aw2, ↓aw17, aw3, aw4, aw5, aw6, aw7, aw8, aw9, aw10, aw11, aw12, aw13, aw14, aw15, aw16, aw19, Nat.reduceLeDiff, if_true, if_false, Nat.reduceEqDiff, Nat.reduceAdd, beq_self_eq_true, beq_true, beq_false, Bool.false_eq_true]
    refine EvF.ret (plain_ev s h hsz) ?_
    simp only [ne_eq, not_false_eq_true, Option.map_some, Option.map_none, List.map_cons, List.map_nil, Bool.not_true, Bool.not_false, decide_true, decide_false, List.getElem?_cons_zero, List.getElem?_cons_succ, ↓aw1, ↓aw2, ↓aw17, aw3, aw4, aw5, aw6, aw7, aw8, aw9, aw10, aw11, aw12, aw13, aw14, aw15, aw16, aw19, Nat.reduceLeDiff, if_true, if_false, Nat.reduceEqDiff, Nat.reduceAdd, beq_self_eq_true, beq_true, beq_false, Bool.false_eq_true]
    exact Fin.same0 hcl rfl ⟨by simp [isMe, hL], rfl⟩

set_option maxHeartbeats 1000000 in
theorem rfunction_ev (s : ByteArray) (h : List AObj) (hsz : s.size < 2 ^ 60) : EvR E0 22 [str s] h (boolv (isFn s)) := by
  refine ev_of (fn := Tryd.f22) (hs := []) Tryd.func22 c22 (by simp) fun hcl => ?_
  simp only [ac22, ne_eq, not_false_eq_true, Option.map_some, Option.map_none, List.map_cons, List.map_nil, Bool.not_true, Bool.not_false, decide_true, decide_false, List.getElem?_cons_zero, List.getElem?_cons_succ, ↓aw1, ↓aw2, ↓aw17, aw3, aw4, aw5, aw6, aw7, aw8, aw9, aw10, aw11, aw12, aw13, aw14, aw15, aw16, aw19, Nat.reduceLeDiff, if_true, if_false, Nat.reduceEqDiff, Nat.reduceAdd, beq_self_eq_true, beq_true, beq_false, Bool.false_eq_true]
  refine EvF.ret (rlower_ev s h hsz) ?_
  cases hL : lowr s
  · have hL' : (whl s.data.toList && !lt97 (pk s.data.toList 0)) = false := hL
    simp only [hL', ne_eq, not_false_eq_true, Option.map_some, Option.map_none, List.map_cons, List.map_nil, Bool.not_true, Bool.not_false, decide_true, decide_false, List.getElem?_cons_zero, List.getElem?_cons_succ, ↓aw1, ↓aw2, ↓aw17, aw3, aw4, aw5, aw6, aw7, aw8, aw9, aw10, aw11, aw12, aw13, aw14, aw15, aw16, aw19, Nat.reduceLeDiff, if_true, if_false, Nat.reduceEqDiff, Nat.reduceAdd, beq_self_eq_true, beq_true, beq_false, Bool.false_eq_true]
    exact Fin.same0 hcl rfl ⟨by simp [isFn, hL], rfl⟩
  · have hL' : (whl s.data.toList && !lt97 (pk s.data.toList 0)) = true := hL
    simp only [hL', ne_eq, not_false_eq_true, Option.map_some, Option.map_none, List.map_cons, List.map_nil, Bool.not_true, Bool.not_false, decide_true, decide_false, List.getElem?_cons_zero, List.getElem?_cons_succ, ↓aw1, ↓aw2, ↓aw17, aw3, aw4, aw5, aw6, aw7, aw8, aw9, aw10, aw11, aw12, aw13, aw14, aw15, aw16, aw19, Nat.reduceLeDiff, if_true, if_false, Nat.reduceEqDiff, Nat.reduceAdd, beq_self_eq_true, beq_true, beq_false, Bool.false_eq_true]
    refine EvF.ret (plain_ev s h hsz) ?_
    cases hH : hy s <;> cases k1 : decide (s = ⟨#[102, 117, 110, 99]⟩) <;> cases k2 : decide (s = ⟨#[105, 102]⟩) <;> cases k3 : decide (s = ⟨#[101, 108, 115, 101]⟩) <;> cases k4 : decide (s = ⟨#[102, 111, 114]⟩) <;>
    (simp only [hH, k1, k2, k3, k4, ne_eq, not_false_eq_true, Option.map_some, Option.map_none, List.map_cons, List.map_nil, Bool.not_true, Bool.not_false, decide_true, decide_false, List.getElem?_cons_zero, List.getElem?_cons_succ, ↓aw1, ↓aw2, ↓aw17, aw3, aw4, aw5, aw6, aw7, aw8, aw9, aw10, aw11, aw12, aw13, aw14, aw15, aw16, aw19, Nat.reduceLeDiff, if_true, if_false, Nat.reduceEqDiff, Nat.reduceAdd, beq_self_eq_true, beq_true, beq_false, Bool.false_eq_true]
     exact Fin.same0 hcl rfl ⟨by simp [isFn, kw, hL, hH, k1, k2, k3, k4], rfl⟩)
end Go.Abs.Fr

namespace Go.Abs.Fr
open Go Go.Abs Go.Proofs
set_option linter.unusedSimpArgs false
set_option maxRecDepth 100000

/-- The place of the first of which something holds; -1: of none. -/
def idx {α : Type} (p : α → Bool) : List α → Nat → Int
  | [], _ => -1
  | x :: l, i => if p x then i else idx p l (i + 1)
theorem idx_any {α : Type} (p : α → Bool) : ∀ (l : List α) (i : Nat), decide (0 ≤ idx p l i) = l.any p
  | [], i => by simp [idx]
  | x :: l, i => by
    unfold idx
    cases hx : p x
    · simp only [Bool.false_eq_true, if_false, List.any_cons, hx, Bool.false_or]; exact idx_any p l (i + 1)
    · simp [hx]

theorem arg_idx (l : List Arg) (f : FuncId) (caps : List AV) (p : Arg → Bool) (h : List AObj) (hl : l.length < 2 ^ 60) (hp : ∀ s, s ∈ l → EvR E0 f (argv s :: caps.map AV.strip) h (boolv (p s))) :
    EvR E0 73 [argsv l, .fn (.func f) [] caps] h (i64 (idx p l 0)) := by
  refine ev_of (fn := Tryd.f73) (hs := []) Tryd.func73 c73 (by simp) fun hcl => ?_
  generalize hR : idx p l 0 = R
  simp only [ac73, List.length_map, ne_eq, not_false_eq_true, Option.map_some, Option.map_none, List.map_cons, List.map_nil, Bool.not_true, Bool.not_false, decide_true, decide_false, List.getElem?_cons_zero, List.getElem?_cons_succ, ↓aw1, ↓aw2, ↓aw17, aw3, aw4, aw5, aw6, aw7, aw8, aw9, aw10, aw11, aw12, aw13, aw14, aw15, aw16, aw19, Nat.reduceLeDiff, if_true, if_false, Nat.reduceEqDiff, Nat.reduceAdd, beq_self_eq_true, beq_true, beq_false, Bool.false_eq_true]
  refine LoopF.by (α := Nat) (fun i => ⟨[(0, argsv l), (1, .fn (.func f) [] caps), (6, argsv l), (7, i64 l.length), (8, i64 i)], h⟩) (fun i => l.length - i)
    (fun i => i ≤ l.length ∧ idx p (l.drop i) i = R) 0 ⟨by omega, by simpa using hR⟩ (weak_of rfl (by simp [look])) ?_
  rintro i ⟨h1, h2⟩
  by_cases hi : i < l.length
  · obtain ⟨s, hs⟩ : ∃ s, l[i]? = some s := ⟨_, List.getElem?_eq_getElem hi⟩
    have e1 : decide ((i : Int) < (l.length : Int)) = true := by simp; omega
    have w3 : IntKind.i64.wrap ((i : Int) + 1) = ((i + 1 : Nat) : Int) := by rw [wrap_i64] <;> omega
    have hp' := hp s (List.mem_of_getElem? hs)
    rw [drop_get hs] at h2
    unfold idx at h2
    simp only [argv] at hp'
    simp only [e1, ne_eq, not_false_eq_true, Option.map_some, Option.map_none, List.map_cons, List.map_nil, Bool.not_true, Bool.not_false, decide_true, decide_false, List.getElem?_cons_zero, List.getElem?_cons_succ, ↓aw1, ↓aw2, ↓aw17, aw3, aw4, aw5, aw6, aw7, aw8, aw9, aw10, aw11, aw12, aw13, aw14, aw15, aw16, aw19, Nat.reduceLeDiff, if_true, if_false, Nat.reduceEqDiff, Nat.reduceAdd, beq_self_eq_true, beq_true, beq_false, Bool.false_eq_true]
    refine Need.mk ⟨by omega, by simp; omega⟩ (Elem.recs (map_get argv l i s hs) (by simp only [argv]; exact ⟨rfl, rfl⟩) ?_)
    simp only [argv, List.take_succ_cons, List.take_zero, List.drop_zero, List.drop_succ_cons, ne_eq, not_false_eq_true, Option.map_some, Option.map_none, List.map_cons, List.map_nil, Bool.not_true, Bool.not_false, decide_true, decide_false, List.getElem?_cons_zero, List.getElem?_cons_succ, ↓aw1, ↓aw2, ↓aw17, aw3, aw4, aw5, aw6, aw7, aw8, aw9, aw10, aw11, aw12, aw13, aw14, aw15, aw16, aw19, Nat.reduceLeDiff, if_true, if_false, Nat.reduceEqDiff, Nat.reduceAdd, beq_self_eq_true, beq_true, beq_false, Bool.false_eq_true]
    refine EvF.ret hp' ?_
    cases hx : p s
    · rw [hx] at h2
      simp only [Bool.false_eq_true, if_false] at h2
      simp only [w3, ne_eq, not_false_eq_true, Option.map_some, Option.map_none, List.map_cons, List.map_nil, Bool.not_true, Bool.not_false, decide_true, decide_false, List.getElem?_cons_zero, List.getElem?_cons_succ, ↓aw1, ↓aw2, ↓aw17, aw3, aw4, aw5, aw6, aw7, aw8, aw9, aw10, aw11, aw12, aw13, aw14, aw15, aw16, aw19, Nat.reduceLeDiff, if_true, if_false, Nat.reduceEqDiff, Nat.reduceAdd, beq_self_eq_true, beq_true, beq_false, Bool.false_eq_true]
      exact ⟨i + 1, ⟨by omega, h2⟩, by omega, weak_of rfl (by simp [look])⟩
    · rw [hx] at h2
      simp only [if_true] at h2
      subst h2
      simp only [ne_eq, not_false_eq_true, Option.map_some, Option.map_none, List.map_cons, List.map_nil, Bool.not_true, Bool.not_false, decide_true, decide_false, List.getElem?_cons_zero, List.getElem?_cons_succ, ↓aw1, ↓aw2, ↓aw17, aw3, aw4, aw5, aw6, aw7, aw8, aw9, aw10, aw11, aw12, aw13, aw14, aw15, aw16, aw19, Nat.reduceLeDiff, if_true, if_false, Nat.reduceEqDiff, Nat.reduceAdd, beq_self_eq_true, beq_true, beq_false, Bool.false_eq_true]
      exact Fin.same0 hcl rfl ⟨rfl, rfl⟩
  · have e1 : decide ((i : Int) < (l.length : Int)) = false := by simp; omega
    rw [List.drop_eq_nil_of_le (by omega)] at h2
    unfold idx at h2
    subst h2
    simp only [e1, ne_eq, not_false_eq_true, Option.map_some, Option.map_none, List.map_cons, List.map_nil, Bool.not_true, Bool.not_false, decide_true, decide_false, List.getElem?_cons_zero, List.getElem?_cons_succ, ↓aw1, ↓aw2, ↓aw17, aw3, aw4, aw5, aw6, aw7, aw8, aw9, aw10, aw11, aw12, aw13, aw14, aw15, aw16, aw19, Nat.reduceLeDiff, if_true, if_false, Nat.reduceEqDiff, Nat.reduceAdd, beq_self_eq_true, beq_true, beq_false, Bool.false_eq_true]
    exact Fin.same0 hcl rfl ⟨rfl, rfl⟩

theorem arg_any (l : List Arg) (f : FuncId) (caps : List AV) (p : Arg → Bool) (h : List AObj) (hl : l.length < 2 ^ 60) (hp : ∀ s, s ∈ l → EvR E0 f (argv s :: caps.map AV.strip) h (boolv (p s))) :
    EvR E0 55 [argsv l, .fn (.func f) [] caps] h (boolv (l.any p)) := by
  refine ev_of (fn := Tryd.f55) (hs := []) Tryd.func55 c55 (by simp) fun hcl => ?_
  simp only [ac55, ne_eq, not_false_eq_true, Option.map_some, Option.map_none, List.map_cons, List.map_nil, Bool.not_true, Bool.not_false, decide_true, decide_false, List.getElem?_cons_zero, List.getElem?_cons_succ, ↓aw1, ↓aw2, ↓aw17, aw3, aw4, aw5, aw6, aw7, aw8, aw9, aw10, aw11, aw12, aw13, aw14, aw15, aw16, aw19, Nat.reduceLeDiff, if_true, if_false, Nat.reduceEqDiff, Nat.reduceAdd, beq_self_eq_true, beq_true, beq_false, Bool.false_eq_true]
  refine EvF.ret (arg_idx l f caps p h hl hp) ?_
  simp only [idx_any, ne_eq, not_false_eq_true, Option.map_some, Option.map_none, List.map_cons, List.map_nil, Bool.not_true, Bool.not_false, decide_true, decide_false, List.getElem?_cons_zero, List.getElem?_cons_succ, ↓aw1, ↓aw2, ↓aw17, aw3, aw4, aw5, aw6, aw7, aw8, aw9, aw10, aw11, aw12, aw13, aw14, aw15, aw16, aw19, Nat.reduceLeDiff, if_true, if_false, Nat.reduceEqDiff, Nat.reduceAdd, beq_self_eq_true, beq_true, beq_false, Bool.false_eq_true]
  exact Fin.same0 hcl rfl ⟨rfl, rfl⟩

theorem stmt_idx (l : List Stmt) (f : FuncId) (caps : List AV) (p : Stmt → Bool) (h : List AObj) (hl : l.length < 2 ^ 60) (hp : ∀ s, s ∈ l → EvR E0 f (stmtv s :: caps.map AV.strip) h (boolv (p s))) :
    EvR E0 53 [bodyv l, .fn (.func f) [] caps] h (i64 (idx p l 0)) := by
  refine ev_of (fn := Tryd.f53) (hs := []) Tryd.func53 c53 (by simp) fun hcl => ?_
  generalize hR : idx p l 0 = R
  simp only [ac53, List.length_map, ne_eq, not_false_eq_true, Option.map_some, Option.map_none, List.map_cons, List.map_nil, Bool.not_true, Bool.not_false, decide_true, decide_false, List.getElem?_cons_zero, List.getElem?_cons_succ, ↓aw1, ↓aw2, ↓aw17, aw3, aw4, aw5, aw6, aw7, aw8, aw9, aw10, aw11, aw12, aw13, aw14, aw15, aw16, aw19, Nat.reduceLeDiff, if_true, if_false, Nat.reduceEqDiff, Nat.reduceAdd, beq_self_eq_true, beq_true, beq_false, Bool.false_eq_true]
  refine LoopF.by (α := Nat) (fun i => ⟨[(0, bodyv l), (1, .fn (.func f) [] caps), (6, bodyv l), (7, i64 l.length), (8, i64 i)], h⟩) (fun i => l.length - i)
    (fun i => i ≤ l.length ∧ idx p (l.drop i) i = R) 0 ⟨by omega, by simpa using hR⟩ (weak_of rfl (by simp [look])) ?_
  rintro i ⟨h1, h2⟩
  by_cases hi : i < l.length
  · obtain ⟨s, hs⟩ : ∃ s, l[i]? = some s := ⟨_, List.getElem?_eq_getElem hi⟩
    have e1 : decide ((i : Int) < (l.length : Int)) = true := by simp; omega
    have w3 : IntKind.i64.wrap ((i : Int) + 1) = ((i + 1 : Nat) : Int) := by rw [wrap_i64] <;> omega
    have hp' := hp s (List.mem_of_getElem? hs)
    rw [drop_get hs] at h2
    unfold idx at h2
    simp only [stmtv_eq] at hp'
    simp only [e1, ne_eq, not_false_eq_true, Option.map_some, Option.map_none, List.map_cons, List.map_nil, Bool.not_true, Bool.not_false, decide_true, decide_false, List.getElem?_cons_zero, List.getElem?_cons_succ, ↓aw1, ↓aw2, ↓aw17, aw3, aw4, aw5, aw6, aw7, aw8, aw9, aw10, aw11, aw12, aw13, aw14, aw15, aw16, aw19, Nat.reduceLeDiff, if_true, if_false, Nat.reduceEqDiff, Nat.reduceAdd, beq_self_eq_true, beq_true, beq_false, Bool.false_eq_true]
    refine Need.mk ⟨by omega, by simp; omega⟩ (Elem.recs (map_get stmtv l i s hs) (by simp only [stmtv_eq]; exact ⟨rfl, rfl⟩) ?_)
    simp only [stmtv_eq, List.take_succ_cons, List.take_zero, List.drop_zero, List.drop_succ_cons, ne_eq, not_false_eq_true, Option.map_some, Option.map_none, List.map_cons, List.map_nil, Bool.not_true, Bool.not_false, decide_true, decide_false, List.getElem?_cons_zero, List.getElem?_cons_succ, ↓aw1, ↓aw2, ↓aw17, aw3, aw4, aw5, aw6, aw7, aw8, aw9, aw10, aw11, aw12, aw13, aw14, aw15, aw16, aw19, Nat.reduceLeDiff, if_true, if_false, Nat.reduceEqDiff, Nat.reduceAdd, beq_self_eq_true, beq_true, beq_false, Bool.false_eq_true]
    refine EvF.ret hp' ?_
    cases hx : p s
    · rw [hx] at h2
      simp only [Bool.false_eq_true, if_false] at h2
      simp only [w3, ne_eq, not_false_eq_true, Option.map_some, Option.map_none, List.map_cons, List.map_nil, Bool.not_true, Bool.not_false, decide_true, decide_false, List.getElem?_cons_zero, List.getElem?_cons_succ, ↓aw1, ↓aw2, ↓aw17, aw3, aw4, aw5, aw6, aw7, aw8, aw9, aw10, aw11, aw12, aw13, aw14, aw15, aw16, aw19, Nat.reduceLeDiff, if_true, if_false, Nat.reduceEqDiff, Nat.reduceAdd, beq_self_eq_true, beq_true, beq_false, Bool.false_eq_true]
      exact ⟨i + 1, ⟨by omega, h2⟩, by omega, weak_of rfl (by simp [look])⟩
    · rw [hx] at h2
      simp only [if_true] at h2
      subst h2
      simp only [ne_eq, not_false_eq_true, Option.map_some, Option.map_none, List.map_cons, List.map_nil, Bool.not_true, Bool.not_false, decide_true, decide_false, List.getElem?_cons_zero, List.getElem?_cons_succ, ↓aw1, ↓aw2, ↓aw17, aw3, aw4, aw5, aw6, aw7, aw8, aw9, aw10, aw11, aw12, aw13, aw14, aw15, aw16, aw19, Nat.reduceLeDiff, if_true, if_false, Nat.reduceEqDiff, Nat.reduceAdd, beq_self_eq_true, beq_true, beq_false, Bool.false_eq_true]
      exact Fin.same0 hcl rfl ⟨rfl, rfl⟩
  · have e1 : decide ((i : Int) < (l.length : Int)) = false := by simp; omega
    rw [List.drop_eq_nil_of_le (by omega)] at h2
    unfold idx at h2
    subst h2
    simp only [e1, ne_eq, not_false_eq_true, Option.map_some, Option.map_none, List.map_cons, List.map_nil, Bool.not_true, Bool.not_false, decide_true, decide_false, List.getElem?_cons_zero, List.getElem?_cons_succ, ↓aw1, ↓aw2, ↓aw17, aw3, aw4, aw5, aw6, aw7, aw8, aw9, aw10, aw11, aw12, aw13, aw14, aw15, aw16, aw19, Nat.reduceLeDiff, if_true, if_false, Nat.reduceEqDiff, Nat.reduceAdd, beq_self_eq_true, beq_true, beq_false, Bool.false_eq_true]
    exact Fin.same0 hcl rfl ⟨rfl, rfl⟩

theorem stmt_any (l : List Stmt) (f : FuncId) (caps : List AV) (p : Stmt → Bool) (h : List AObj) (hl : l.length < 2 ^ 60) (hp : ∀ s, s ∈ l → EvR E0 f (stmtv s :: caps.map AV.strip) h (boolv (p s))) :
    EvR E0 38 [bodyv l, .fn (.func f) [] caps] h (boolv (l.any p)) := by
  refine ev_of (fn := Tryd.f38) (hs := []) Tryd.func38 c38 (by simp) fun hcl => ?_
  simp only [ac38, ne_eq, not_false_eq_true, Option.map_some, Option.map_none, List.map_cons, List.map_nil, Bool.not_true, Bool.not_false, decide_true, decide_false, List.getElem?_cons_zero, List.getElem?_cons_succ, ↓aw1, ↓aw2, ↓aw17, aw3, aw4, aw5, aw6, aw7, aw8, aw9, aw10, aw11, aw12, aw13, aw14, aw15, aw16, aw19, Nat.reduceLeDiff, if_true, if_false, Nat.reduceEqDiff, Nat.reduceAdd, beq_self_eq_true, beq_true, beq_false, Bool.false_eq_true]
  refine EvF.ret (stmt_idx l f caps p h hl hp) ?_
  simp only [idx_any, ne_eq, not_false_eq_true, Option.map_some, Option.map_none, List.map_cons, List.map_nil, Bool.not_true, Bool.not_false, decide_true, decide_false, List.getElem?_cons_zero, List.getElem?_cons_succ, ↓aw1, ↓aw2, ↓aw17, aw3, aw4, aw5, aw6, aw7, aw8, aw9, aw10, aw11, aw12, aw13, aw14, aw15, aw16, aw19, Nat.reduceLeDiff, if_true, if_false, Nat.reduceEqDiff, Nat.reduceAdd, beq_self_eq_true, beq_true, beq_false, Bool.false_eq_true]
  exact Fin.same0 hcl rfl ⟨rfl, rfl⟩

theorem fun_idx (l : List Fun) (f : FuncId) (caps : List AV) (p : Fun → Bool) (h : List AObj) (hl : l.length < 2 ^ 60) (hp : ∀ s, s ∈ l → EvR E0 f (funv s :: caps.map AV.strip) h (boolv (p s))) :
    EvR E0 35 [funsv l, .fn (.func f) [] caps] h (i64 (idx p l 0)) := by
  refine ev_of (fn := Tryd.f35) (hs := []) Tryd.func35 c35 (by simp) fun hcl => ?_
  generalize hR : idx p l 0 = R
  simp only [ac35, List.length_map, ne_eq, not_false_eq_true, Option.map_some, Option.map_none, List.map_cons, List.map_nil, Bool.not_true, Bool.not_false, decide_true, decide_false, List.getElem?_cons_zero, List.getElem?_cons_succ, ↓aw1, ↓aw2, ↓aw17, aw3, aw4, aw5, aw6, aw7, aw8, aw9, aw10, aw11, aw12, aw13, aw14, aw15, aw16, aw19, Nat.reduceLeDiff, if_true, if_false, Nat.reduceEqDiff, Nat.reduceAdd, beq_self_eq_true, beq_true, beq_false, Bool.false_eq_true]
  refine LoopF.by (α := Nat) (fun i => ⟨[(0, funsv l), (1, .fn (.func f) [] caps), (6, funsv l), (7, i64 l.length), (8, i64 i)], h⟩) (fun i => l.length - i)
    (fun i => i ≤ l.length ∧ idx p (l.drop i) i = R) 0 ⟨by omega, by simpa using hR⟩ (weak_of rfl (by simp [look])) ?_
  rintro i ⟨h1, h2⟩
  by_cases hi : i < l.length
  · obtain ⟨s, hs⟩ : ∃ s, l[i]? = some s := ⟨_, List.getElem?_eq_getElem hi⟩
    have e1 : decide ((i : Int) < (l.length : Int)) = true := by simp; omega
    have w3 : IntKind.i64.wrap ((i : Int) + 1) = ((i + 1 : Nat) : Int) := by rw [wrap_i64] <;> omega
    have hp' := hp s (List.mem_of_getElem? hs)
    rw [drop_get hs] at h2
    unfold idx at h2
    simp only [funv] at hp'
    simp only [e1, ne_eq, not_false_eq_true, Option.map_some, Option.map_none, List.map_cons, List.map_nil, Bool.not_true, Bool.not_false, decide_true, decide_false, List.getElem?_cons_zero, List.getElem?_cons_succ, ↓aw1, ↓aw2, ↓aw17, aw3, aw4, aw5, aw6, aw7, aw8, aw9, aw10, aw11, aw12, aw13, aw14, aw15, aw16, aw19, Nat.reduceLeDiff, if_true, if_false, Nat.reduceEqDiff, Nat.reduceAdd, beq_self_eq_true, beq_true, beq_false, Bool.false_eq_true]
    refine Need.mk ⟨by omega, by simp; omega⟩ (Elem.recs (map_get funv l i s hs) (by simp only [funv]; exact ⟨rfl, rfl⟩) ?_)
    simp only [funv, List.take_succ_cons, List.take_zero, List.drop_zero, List.drop_succ_cons, ne_eq, not_false_eq_true, Option.map_some, Option.map_none, List.map_cons, List.map_nil, Bool.not_true, Bool.not_false, decide_true, decide_false, List.getElem?_cons_zero, List.getElem?_cons_succ, ↓aw1, ↓aw2, ↓aw17, aw3, aw4, aw5, aw6, aw7, aw8, aw9, aw10, aw11, aw12, aw13, aw14, aw15, aw16, aw19, Nat.reduceLeDiff, if_true, if_false, Nat.reduceEqDiff, Nat.reduceAdd, beq_self_eq_true, beq_true, beq_false, Bool.false_eq_true]
    refine EvF.ret hp' ?_
    cases hx : p s
    · rw [hx] at h2
      simp only [Bool.false_eq_true, if_false] at h2
      simp only [w3, ne_eq, not_false_eq_true, Option.map_some, Option.map_none, List.map_cons, List.map_nil, Bool.not_true, Bool.not_false, decide_true, decide_false, List.getElem?_cons_zero, List.getElem?_cons_succ, ↓aw1, ↓aw2, ↓aw17, aw3, aw4, aw5, aw6, aw7, aw8, aw9, aw10, aw11, aw12, aw13, aw14, aw15, aw16, aw19, Nat.reduceLeDiff, if_true, if_false, Nat.reduceEqDiff, Nat.reduceAdd, beq_self_eq_true, beq_true, beq_false, Bool.false_eq_true]
      exact ⟨i + 1, ⟨by omega, h2⟩, by omega, weak_of rfl (by simp [look])⟩
    · rw [hx] at h2
      simp only [if_true] at h2
      subst h2
      simp only [ne_eq, not_false_eq_true, Option.map_some, Option.map_none, List.map_cons, List.map_nil, Bool.not_true, Bool.not_false, decide_true, decide_false, List.getElem?_cons_zero, List.getElem?_cons_succ, ↓aw1, ↓aw2, ↓aw17, aw3, aw4, aw5, aw6, aw7, aw8, aw9, aw10, aw11, aw12, aw13, aw14, aw15, aw16, aw19, Nat.reduceLeDiff, if_true, if_false, Nat.reduceEqDiff, Nat.reduceAdd, beq_self_eq_true, beq_true, beq_false, Bool.false_eq_true]
      exact Fin.same0 hcl rfl ⟨rfl, rfl⟩
  · have e1 : decide ((i : Int) < (l.length : Int)) = false := by simp; omega
    rw [List.drop_eq_nil_of_le (by omega)] at h2
    unfold idx at h2
    subst h2
    simp only [e1, ne_eq, not_false_eq_true, Option.map_some, Option.map_none, List.map_cons, List.map_nil, Bool.not_true, Bool.not_false, decide_true, decide_false, List.getElem?_cons_zero, List.getElem?_cons_succ, ↓aw1, ↓aw2, ↓aw17, aw3, aw4, aw5, aw6, aw7, aw8, aw9, aw10, aw11, aw12, aw13, aw14, aw15, aw16, aw19, Nat.reduceLeDiff, if_true, if_false, Nat.reduceEqDiff, Nat.reduceAdd, beq_self_eq_true, beq_true, beq_false, Bool.false_eq_true]
    exact Fin.same0 hcl rfl ⟨rfl, rfl⟩

theorem fun_any (l : List Fun) (f : FuncId) (caps : List AV) (p : Fun → Bool) (h : List AObj) (hl : l.length < 2 ^ 60) (hp : ∀ s, s ∈ l → EvR E0 f (funv s :: caps.map AV.strip) h (boolv (p s))) :
    EvR E0 18 [funsv l, .fn (.func f) [] caps] h (boolv (l.any p)) := by
  refine ev_of (fn := Tryd.f18) (hs := []) Tryd.func18 c18 (by simp) fun hcl => ?_
  simp only [ac18, ne_eq, not_false_eq_true, Option.map_some, Option.map_none, List.map_cons, List.map_nil, Bool.not_true, Bool.not_false, decide_true, decide_false, List.getElem?_cons_zero, List.getElem?_cons_succ, ↓aw1, ↓aw2, ↓aw17, aw3, aw4, aw5, aw6, aw7, aw8, aw9, aw10, aw11, aw12, aw13, aw14, aw15, aw16, aw19, Nat.reduceLeDiff, if_true, if_false, Nat.reduceEqDiff, Nat.reduceAdd, beq_self_eq_true, beq_true, beq_false, Bool.false_eq_true]
  refine EvF.ret (fun_idx l f caps p h hl hp) ?_
  simp only [idx_any, ne_eq, not_false_eq_true, Option.map_some, Option.map_none, List.map_cons, List.map_nil, Bool.not_true, Bool.not_false, decide_true, decide_false, List.getElem?_cons_zero, List.getElem?_cons_succ, ↓aw1, ↓aw2, ↓aw17, aw3, aw4, aw5, aw6, aw7, aw8, aw9, aw10, aw11, aw12, aw13, aw14, aw15, aw16, aw19, Nat.reduceLeDiff, if_true, if_false, Nat.reduceEqDiff, Nat.reduceAdd, beq_self_eq_true, beq_true, beq_false, Bool.false_eq_true]
  exact Fin.same0 hcl rfl ⟨rfl, rfl⟩
end Go.Abs.Fr
