/- The text of a fragment: the writer. -/
import Derived.Test.YtgbedffflggenaaDoorFrZ
import Derived.Test.YtgbedffflggenaaDoorFrB
set_option linter.all false
namespace Go.Abs.Fr
open Go Go.Abs Go.Proofs
set_option linter.unusedSimpArgs false
set_option maxRecDepth 100000

abbrev wr (out : List UInt8) (t : Nat) : AObj := .cells [.bp 48, .buf 5 out, i64 t]
theorem lies48 : lies 48 3 := by unfold lies; kernel_rfl

theorem repeat_nine (t : Nat) : Lib.repeatL [9] t = List.replicate t 9 := by
  induction t with
  | zero => rfl
  | succ t ih => simp only [Lib.repeatL, ih, List.replicate_succ]; rfl

theorem repeat_ev (t : Nat) (ht : t ≤ 140737488355328) (h : List AObj) : EvR E0 46 [str ⟨#[9]⟩, i64 t] h (str ⟨(List.replicate t 9).toArray⟩) := by
  refine ev_of_kit (fn := Tryd.f46) (c := (Tryd.f46.body).getD .skip) Tryd.func46 (by kernel_rfl) (by kernel_rfl) fun w g vs hg hgl ha => ?_
  have h1 := args_get ha
  obtain ⟨v, r, e1, h2, h3⟩ := Reps.cons.1 h1
  obtain ⟨v', r', e2, h4, h5⟩ := Reps.cons.1 h3
  rw [Reps.nil.1 h5] at e2
  rw [Rep.lit_iff] at h2 h4
  subst h2 h4 e2
  obtain rfl : vs = #[.string ⟨#[9]⟩, .int .i64 t] := Array.ext' e1
  refine (Tryd.strings_Repeat ⟨#[9]⟩ t w (by omega) (by show 1 * t ≤ _; omega)).mono ?_
  rintro e w' ⟨rfl, hb⟩
  refine ⟨_, rfl, hb, fun g' => ?_⟩
  rw [← repeat_nine]
  simp [Rep]

theorem closed_set {h : List AObj} {s : Nat} {l : List AV} (hc : Closed h) (hl : unders h.length l = true) : Closed (h.set s (.cells l)) := by
  intro l' hl'
  rw [List.length_set]
  rcases List.mem_or_eq_of_mem_set hl' with h1 | h1
  · exact hc l' h1
  · cases h1; exact hl

theorem hset {h : List AObj} {id : Nat} (hid : id < h.length) (X : AObj) : (h.set id X)[id]? = some X := List.getElem?_set_self hid
theorem hset2 (h : List AObj) (id : Nat) (X Y : AObj) : (h.set id X).set id Y = h.set id Y := List.set_set ..

theorem flat_snoc2 (l : List (List UInt8)) (i : Nat) (x : List UInt8) (h : l[i]? = some x) : (l.take (i + 1)).flatten = (l.take i).flatten ++ x := by
  obtain ⟨hi, he⟩ := List.getElem?_eq_some_iff.1 h
  rw [List.take_succ_eq_append_getElem hi, he]; simp
theorem flat_take_le (l : List (List UInt8)) (i : Nat) : (l.take i).flatten.length ≤ l.flatten.length := by
  have : l.flatten = (l.take i).flatten ++ (l.drop i).flatten := by rw [← List.flatten_append, List.take_append_drop]
  rw [this]; simp

theorem line_ev {h : List AObj} {id : Nat} {out : List UInt8} {t : Nat} (l : List (List UInt8)) (hid : h[id]? = some (wr out t)) (hl : l.length ≤ 1000) (hlen : out.length + t + l.flatten.length + 1 ≤ 140737488355328) :
    Ev E0 24 [.ref id 0, .sl .full (strs l)] h (fun r h' => r = .ret (.tup []) ∧ h' = h.set id (wr (out ++ (List.replicate t 9 ++ (l.flatten ++ [10]))) t)) := by
  refine ev_of (fn := Tryd.f24) (hs := [(0, 1016)]) Tryd.func24 c24 (by simp) fun hcl => ?_
  have hidl : id < h.length := (List.getElem?_eq_some_iff.1 hid).1
  simp only [ac24, hid, List.drop_zero, List.drop_succ_cons, ne_eq, not_false_eq_true, Option.map_some, Option.map_none, List.map_cons, List.map_nil, Bool.not_true, Bool.not_false, decide_true, decide_false, List.getElem?_cons_zero, List.getElem?_cons_succ, ↓aw1, ↓aw2, ↓aw17, aw3, aw4, aw5, aw6, aw7, aw8, aw9, aw10, aw11, aw12, aw13, aw14, aw15, aw16, aw19, Nat.reduceLeDiff, if_true, if_false, Nat.reduceEqDiff, Nat.reduceAdd, beq_self_eq_true, beq_true, beq_false, Bool.false_eq_true]
  refine EvRF.ret (repeat_ev t (by omega) h) ?_
  simp only [ne_eq, not_false_eq_true, Option.map_some, Option.map_none, List.map_cons, List.map_nil, Bool.not_true, Bool.not_false, decide_true, decide_false, List.getElem?_cons_zero, List.getElem?_cons_succ, ↓aw1, ↓aw2, ↓aw17, aw3, aw4, aw5, aw6, aw7, aw8, aw9, aw10, aw11, aw12, aw13, aw14, aw15, aw16, aw19, Nat.reduceLeDiff, if_true, if_false, Nat.reduceEqDiff, Nat.reduceAdd, beq_self_eq_true, beq_true, beq_false, Bool.false_eq_true]
  refine EvF.use (writeString_ev ⟨(List.replicate t 9).toArray⟩ hid lies48 (by show out.length + (List.replicate t (9 : UInt8)).length ≤ _; simp; omega)) ?_
  rintro r h' ⟨rfl, rfl⟩
  simp only [List.length_map, ne_eq, not_false_eq_true, Option.map_some, Option.map_none, List.map_cons, List.map_nil, Bool.not_true, Bool.not_false, decide_true, decide_false, List.getElem?_cons_zero, List.getElem?_cons_succ, ↓aw1, ↓aw2, ↓aw17, aw3, aw4, aw5, aw6, aw7, aw8, aw9, aw10, aw11, aw12, aw13, aw14, aw15, aw16, aw19, Nat.reduceLeDiff, if_true, if_false, Nat.reduceEqDiff, Nat.reduceAdd, beq_self_eq_true, beq_true, beq_false, Bool.false_eq_true]
  refine LoopF.by (α := Nat) (fun i => ⟨[(0, .ref id 0), (15, .sl .full (strs l)), (16, i64 l.length), (17, i64 i)], h.set id (wr (out ++ (List.replicate t 9 ++ (l.take i).flatten)) t)⟩) (fun i => l.length - i)
    (fun i => i ≤ l.length) 0 (Nat.zero_le _) (weak_of (by simp) (by simp [look])) ?_
  rintro i h1
  have hfl := flat_take_le l i
  by_cases hi : i < l.length
  · obtain ⟨x, hx⟩ : ∃ x, l[i]? = some x := ⟨_, List.getElem?_eq_getElem hi⟩
    have e1 : decide ((i : Int) < (l.length : Int)) = true := by rw [decide_eq_true_eq]; omega
    have w3 : IntKind.i64.wrap ((i : Int) + 1) = ((i + 1 : Nat) : Int) := by rw [wrap_i64] <;> omega
    have hsn := flat_snoc2 l i x hx
    have hfl2 := flat_take_le l (i + 1)
    rw [hsn] at hfl2
    simp only [List.length_append] at hfl2
    simp only [e1, ne_eq, not_false_eq_true, Option.map_some, Option.map_none, List.map_cons, List.map_nil, Bool.not_true, Bool.not_false, decide_true, decide_false, List.getElem?_cons_zero, List.getElem?_cons_succ, ↓aw1, ↓aw2, ↓aw17, aw3, aw4, aw5, aw6, aw7, aw8, aw9, aw10, aw11, aw12, aw13, aw14, aw15, aw16, aw19, Nat.reduceLeDiff, if_true, if_false, Nat.reduceEqDiff, Nat.reduceAdd, beq_self_eq_true, beq_true, beq_false, Bool.false_eq_true]
    refine Need.mk ⟨by omega, by first | omega | (simp; omega)⟩ (Elem.recs (map_get (fun x => str ⟨x.toArray⟩) l i x hx) ⟨rfl, rfl⟩ ?_)
    simp only [hset hidl, List.drop_zero, List.drop_succ_cons, ne_eq, not_false_eq_true, Option.map_some, Option.map_none, List.map_cons, List.map_nil, Bool.not_true, Bool.not_false, decide_true, decide_false, List.getElem?_cons_zero, List.getElem?_cons_succ, ↓aw1, ↓aw2, ↓aw17, aw3, aw4, aw5, aw6, aw7, aw8, aw9, aw10, aw11, aw12, aw13, aw14, aw15, aw16, aw19, Nat.reduceLeDiff, if_true, if_false, Nat.reduceEqDiff, Nat.reduceAdd, beq_self_eq_true, beq_true, beq_false, Bool.false_eq_true]
    refine EvF.use (writeString_ev ⟨x.toArray⟩ (hset hidl _) lies48 (by show (out ++ (List.replicate t (9 : UInt8) ++ (l.take i).flatten)).length + x.length ≤ _; simp only [List.length_append, List.length_replicate]; omega)) ?_
    rintro r h' ⟨rfl, rfl⟩
    simp only [w3, ne_eq, not_false_eq_true, Option.map_some, Option.map_none, List.map_cons, List.map_nil, Bool.not_true, Bool.not_false, decide_true, decide_false, List.getElem?_cons_zero, List.getElem?_cons_succ, ↓aw1, ↓aw2, ↓aw17, aw3, aw4, aw5, aw6, aw7, aw8, aw9, aw10, aw11, aw12, aw13, aw14, aw15, aw16, aw19, Nat.reduceLeDiff, if_true, if_false, Nat.reduceEqDiff, Nat.reduceAdd, beq_self_eq_true, beq_true, beq_false, Bool.false_eq_true]
    refine ⟨i + 1, by omega, by omega, weak_of ?_ (by simp [look])⟩
    rw [hset2, hsn]
    simp only [List.append_assoc]
  · have e1 : decide ((i : Int) < (l.length : Int)) = false := by rw [decide_eq_false_iff_not]; omega
    rw [List.take_of_length_le (by omega)]
    simp only [e1, hset hidl, List.drop_zero, List.drop_succ_cons, ne_eq, not_false_eq_true, Option.map_some, Option.map_none, List.map_cons, List.map_nil, Bool.not_true, Bool.not_false, decide_true, decide_false, List.getElem?_cons_zero, List.getElem?_cons_succ, ↓aw1, ↓aw2, ↓aw17, aw3, aw4, aw5, aw6, aw7, aw8, aw9, aw10, aw11, aw12, aw13, aw14, aw15, aw16, aw19, Nat.reduceLeDiff, if_true, if_false, Nat.reduceEqDiff, Nat.reduceAdd, beq_self_eq_true, beq_true, beq_false, Bool.false_eq_true]
    refine EvF.use (writeByte_ev 10 (hset hidl _) lies48 (by simp only [List.length_append, List.length_replicate]; omega)) ?_
    rintro r h' ⟨rfl, rfl⟩
    simp only [ne_eq, not_false_eq_true, Option.map_some, Option.map_none, List.map_cons, List.map_nil, Bool.not_true, Bool.not_false, decide_true, decide_false, List.getElem?_cons_zero, List.getElem?_cons_succ, ↓aw1, ↓aw2, ↓aw17, aw3, aw4, aw5, aw6, aw7, aw8, aw9, aw10, aw11, aw12, aw13, aw14, aw15, aw16, aw19, Nat.reduceLeDiff, if_true, if_false, Nat.reduceEqDiff, Nat.reduceAdd, beq_self_eq_true, beq_true, beq_false, Bool.false_eq_true]
    rw [hset2]
    refine Fin.here (by simp) (closed_set hcl rfl) rfl ⟨rfl, ?_⟩
    simp only [List.append_assoc]

/-! ### What a statement, what statements are written as -/
def headT (s : Stmt) : List (List UInt8) :=
  if decide (s.op = 1) then [callT s] else if decide (s.op = 2) then [s.name.data.toList, [40, 99, 41]]
  else if decide (s.op = 4) then [[102, 111, 114, 32], callT s, [32, 123]] else [[105, 102, 32], callT s, [32, 123]]
def lineT (t : Nat) (l : List (List UInt8)) : List UInt8 := List.replicate t 9 ++ (l.flatten ++ [10])
mutual
def stmtT : Nat → Stmt → List UInt8
  | t, .mk o n a th el => lineT t (headT (.mk o n a th el)) ++ (if decide (o = 1) || decide (o = 2) then [] else stmtsT (t + 1) th ++ ((if el.length = 0 then [] else lineT t [[125, 32, 101, 108, 115, 101, 32, 123]] ++ stmtsT (t + 1) el) ++ lineT t [[125]]))
def stmtsT : Nat → List Stmt → List UInt8
  | _, [] => []
  | t, s :: l => stmtT t s ++ stmtsT t l
end
end Go.Abs.Fr
