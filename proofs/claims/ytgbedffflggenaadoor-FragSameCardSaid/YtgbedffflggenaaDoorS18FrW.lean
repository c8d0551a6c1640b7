/- The text of a fragment: the writer. -/
import Derived.Test.YtgbedffflggenaaDoorS18FrZ
import Derived.Test.YtgbedffflggenaaDoorS18FrB
set_option linter.all false
namespace Go.Abs.Fr
open Go Go.Abs Go.Proofs
set_option linter.unusedSimpArgs false
set_option maxRecDepth 100000

abbrev wr (out : List UInt8) (t : Nat) : AObj := .cells [.bp 48, .buf 5 out, i64 t]
theorem lies48 : lies 48 3 := by unfold lies; kernel_rfl

theorem repeat_nine (t : Nat) : Lib.repeatL [9] t = List.replicate t 9 := by
  induction t with
  | zero => rfl
  | succ t ih => simp only [Lib.repeatL, ih, List.replicate_succ]; rfl

theorem repeat_ev (t : Nat) (ht : t ≤ 140737488355328) (h : List AObj) : EvR E0 46 [str ⟨#[9]⟩, i64 t] h (str ⟨(List.replicate t 9).toArray⟩) := by
  refine ev_of_kit (fn := Tryd.f46) (c := (Tryd.f46.body).getD .skip) Tryd.func46 (by kernel_rfl) (by kernel_rfl) fun w g vs hg hgl ha => ?_
  have h1 := args_get ha
  obtain ⟨v, r, e1, h2, h3⟩ := Reps.cons.1 h1
  obtain ⟨v', r', e2, h4, h5⟩ := Reps.cons.1 h3
  rw [Reps.nil.1 h5] at e2
  rw [Rep.lit_iff] at h2 h4
  subst h2 h4 e2
  obtain rfl : vs = #[.string ⟨#[9]⟩, .int .i64 t] := Array.ext' e1
  refine (Tryd.strings_Repeat ⟨#[9]⟩ t w (by omega) (by show 1 * t ≤ _; omega)).mono ?_
  rintro e w' ⟨rfl, hb⟩
  refine ⟨_, rfl, hb, fun g' => ?_⟩
  rw [← repeat_nine]
  simp [Rep]

theorem closed_set {h : List AObj} {s : Nat} {l : List AV} (hc : Closed h) (hl : unders h.length l = true) : Closed (h.set s (.cells l)) := by
  intro l' hl'
  rw [List.length_set]
  rcases List.mem_or_eq_of_mem_set hl' with h1 | h1
  · exact hc l' h1
  · cases h1; exact hl

theorem hset {h : List AObj} {id : Nat} (hid : id < h.length) (X : AObj) : (h.set id X)[id]? = some X := List.getElem?_set_self hid
theorem hset2 (h : List AObj) (id : Nat) (X Y : AObj) : (h.set id X).set id Y = h.set id Y := List.set_set ..

theorem flat_snoc2 (l : List (List UInt8)) (i : Nat) (x : List UInt8) (h : l[i]? = some x) : (l.take (i + 1)).flatten = (l.take i).flatten ++ x := by
  obtain ⟨hi, he⟩ := List.getElem?_eq_some_iff.1 h
  rw [List.take_succ_eq_append_getElem hi, he]; simp
theorem flat_take_le (l : List (List UInt8)) (i : Nat) : (l.take i).flatten.length ≤ l.flatten.length := by
  have : l.flatten = (l.take i).flatten ++ (l.drop i).flatten := by rw [← List.flatten_append, List.take_append_drop]
  rw [this]; simp

theorem line_ev {h : List AObj} {id : Nat} {out : List UInt8} {t : Nat} (l : List (List UInt8)) (hid : h[id]? = some (wr out t)) (hl : l.length ≤ 1000) (hlen : out.length + t + l.flatten.length + 1 ≤ 140737488355328) :
    Ev E0 24 [.ref id 0, .sl .full (strs l)] h (fun r h' => r = .ret (.tup []) ∧ h' = h.set id (wr (out ++ (List.replicate t 9 ++ (l.flatten ++ [10]))) t)) := by
  refine ev_of (fn := Tryd.f24) (hs := [(0, 1016)]) Tryd.func24 c24 (by simp) fun hcl => ?_
  have hidl : id < h.length := (List.getElem?_eq_some_iff.1 hid).1
  simp only [ac24, hid, List.drop_zero, List.drop_succ_cons, ne_eq, not_false_eq_true, Option.map_some, Option.map_none, List.map_cons, List.map_nil, Bool.not_true, Bool.not_false, decide_true, decide_false, List.getElem?_cons_zero, List.getElem?_cons_succ, ↓aw1, ↓aw2, ↓aw17, aw3, aw4, aw5, aw6, aw7, aw8, aw9, aw10, aw11, aw12, aw13, aw14, aw15, aw16, aw19, Nat.reduceLeDiff, if_true, if_false, Nat.reduceEqDiff, Nat.reduceAdd, beq_self_eq_true, beq_true, beq_false, Bool.false_eq_true]
  refine EvRF.ret (repeat_ev t (by omega) h) ?_
  simp only [ne_eq, not_false_eq_true, Option.map_some, Option.map_none, List.map_cons, List.map_nil, Bool.not_true, Bool.not_false, decide_true, decide_false, List.getElem?_cons_zero, List.getElem?_cons_succ, ↓aw1, ↓aw2, ↓aw17, aw3, aw4, aw5, aw6, aw7, aw8, aw9, aw10, aw11, aw12, aw13, aw14, aw15, aw16, aw19, Nat.reduceLeDiff, if_true, if_false, Nat.reduceEqDiff, Nat.reduceAdd, beq_self_eq_true, beq_true, beq_false, Bool.false_eq_true]
  refine EvF.use (writeString_ev ⟨(List.replicate t 9).toArray⟩ hid lies48 (by show out.length + (List.replicate t (9 : UInt8)).length ≤ _; simp; omega)) ?_
  rintro r h' ⟨rfl, rfl⟩
  simp only [List.length_map, ne_eq, not_false_eq_true, Option.map_some, Option.map_none, List.map_cons, List.map_nil, Bool.not_true, Bool.not_false, decide_true, decide_false, List.getElem?_cons_zero, List.getElem?_cons_succ, ↓aw1, ↓aw2, ↓aw17, aw3, aw4, aw5, aw6, aw7, aw8, aw9, aw10, aw11, aw12, aw13, aw14, aw15, aw16, aw19, Nat.reduceLeDiff, if_true, if_false, Nat.reduceEqDiff, Nat.reduceAdd, beq_self_eq_true, beq_true, beq_false, Bool.false_eq_true]
  refine LoopF.by (α := Nat) (fun i => ⟨[(0, .ref id 0), (15, .sl .full (strs l)), (16, i64 l.length), (17, i64 i)], h.set id (wr (out ++ (List.replicate t 9 ++ (l.take i).flatten)) t)⟩) (fun i => l.length - i)
    (fun i => i ≤ l.length) 0 (Nat.zero_le _) (weak_of (by simp) (by simp [look])) ?_
  rintro i h1
  have hfl := flat_take_le l i
  by_cases hi : i < l.length
  · obtain ⟨x, hx⟩ : ∃ x, l[i]? = some x := ⟨_, List.getElem?_eq_getElem hi⟩
    have e1 : decide ((i : Int) < (l.length : Int)) = true := by rw [decide_eq_true_eq]; omega
    have w3 : IntKind.i64.wrap ((i : Int) + 1) = ((i + 1 : Nat) : Int) := by rw [wrap_i64] <;> omega
    have hsn := flat_snoc2 l i x hx
    have hfl2 := flat_take_le l (i + 1)
    rw [hsn] at hfl2
    simp only [List.length_append] at hfl2
    simp only [e1, ne_eq, not_false_eq_true, Option.map_some, Option.map_none, List.map_cons, List.map_nil, Bool.not_true, Bool.not_false, decide_true, decide_false, List.getElem?_cons_zero, List.getElem?_cons_succ, ↓aw1, ↓aw2, ↓aw17, aw3, aw4, aw5, aw6, aw7, aw8, aw9, aw10, aw11, aw12, aw13, aw14, aw15, aw16, aw19, Nat.reduceLeDiff, if_true, if_false, Nat.reduceEqDiff, Nat.reduceAdd, beq_self_eq_true, beq_true, beq_false, Bool.false_eq_true]
    refine Need.mk ⟨by omega, by first | omega | (simp; omega)⟩ (Elem.recs (map_get (fun x => str ⟨x.toArray⟩) l i x hx) ⟨rfl, rfl⟩ ?_)
    simp only [hset hidl, List.drop_zero, List.drop_succ_cons, ne_eq, not_false_eq_true, Option.map_some, Option.map_none, List.map_cons, List.map_nil, Bool.not_true, Bool.not_false, decide_true, decide_false, List.getElem?_cons_zero, List.getElem?_cons_succ, ↓aw1, ↓aw2, ↓aw17, aw3, aw4, aw5, aw6, aw7, aw8, aw9, aw10, aw11, aw12, aw13, aw14, aw15, aw16, aw19, Nat.reduceLeDiff, if_true, if_false, Nat.reduceEqDiff, Nat.reduceAdd, beq_self_eq_true, beq_true, beq_false, Bool.false_eq_true]
    refine EvF.use (writeString_ev ⟨x.toArray⟩ (hset hidl _) lies48 (by show (out ++ (List.replicate t (9 : UInt8) ++ (l.take i).flatten)).length + x.length ≤ _; simp only [List.length_append, List.length_replicate]; omega)) ?_
    rintro r h' ⟨rfl, rfl⟩
    simp only [w3, ne_eq, not_false_eq_true, Option.map_some, Option.map_none, List.map_cons, List.map_nil, Bool.not_true, Bool.not_false, decide_true, decide_false, List.getElem?_cons_zero, List.getElem?_cons_succ, ↓aw1, ↓aw2, ↓aw17, aw3, aw4, aw5, aw6, aw7, aw8, aw9, aw10, aw11, aw12, aw13, aw14, aw15, aw16, aw19, Nat.reduceLeDiff, if_true, if_false, Nat.reduceEqDiff, Nat.reduceAdd, beq_self_eq_true, beq_true, beq_false, Bool.false_eq_true]
    refine ⟨i + 1, by omega, by omega, weak_of ?_ (by simp [look])⟩
    rw [hset2, hsn]
    simp only [List.append_assoc]
  · have e1 : decide ((i : Int) < (l.length : Int)) = false := by rw [decide_eq_false_iff_not]; omega
    rw [List.take_of_length_le (by omega)]
    simp only [e1, hset hidl, List.drop_zero, List.drop_succ_cons, ne_eq, not_false_eq_true, Option.map_some, Option.map_none, List.map_cons, List.map_nil, Bool.not_true, Bool.not_false, decide_true, decide_false, List.getElem?_cons_zero, List.getElem?_cons_succ, ↓aw1, ↓aw2, ↓aw17, aw3, aw4, aw5, aw6, aw7, aw8, aw9, aw10, aw11, aw12, aw13, aw14, aw15, aw16, aw19, Nat.reduceLeDiff, if_true, if_false, Nat.reduceEqDiff, Nat.reduceAdd, beq_self_eq_true, beq_true, beq_false, Bool.false_eq_true]
    refine EvF.use (writeByte_ev 10 (hset hidl _) lies48 (by simp only [List.length_append, List.length_replicate]; omega)) ?_
    rintro r h' ⟨rfl, rfl⟩
    simp only [ne_eq, not_false_eq_true, Option.map_some, Option.map_none, List.map_cons, List.map_nil, Bool.not_true, Bool.not_false, decide_true, decide_false, List.getElem?_cons_zero, List.getElem?_cons_succ, ↓aw1, ↓aw2, ↓aw17, aw3, aw4, aw5, aw6, aw7, aw8, aw9, aw10, aw11, aw12, aw13, aw14, aw15, aw16, aw19, Nat.reduceLeDiff, if_true, if_false, Nat.reduceEqDiff, Nat.reduceAdd, beq_self_eq_true, beq_true, beq_false, Bool.false_eq_true]
    rw [hset2]
    refine Fin.here (by simp) (closed_set hcl rfl) rfl ⟨rfl, ?_⟩
    simp only [List.append_assoc]

/-! ### What a statement, what statements are written as -/
def headT (s : Stmt) : List (List UInt8) :=
  if decide (s.op = 1) then [callT s] else if decide (s.op = 2) then [s.name.data.toList, [40, 99, 41]]
  else if decide (s.op = 4) then [[102, 111, 114, 32], callT s, [32, 123]] else [[105, 102, 32], callT s, [32, 123]]
def lineT (t : Nat) (l : List (List UInt8)) : List UInt8 := List.replicate t 9 ++ (l.flatten ++ [10])
mutual
def stmtT : Nat → Stmt → List UInt8
  | t, .mk o n a th el => lineT t (headT (.mk o n a th el)) ++ (if decide (o = 1) || decide (o = 2) then [] else stmtsT (t + 1) th ++ ((if el.length = 0 then [] else lineT t [[125, 32, 101, 108, 115, 101, 32, 123]] ++ stmtsT (t + 1) el) ++ lineT t [[125]]))
def stmtsT : Nat → List Stmt → List UInt8
  | _, [] => []
  | t, s :: l => stmtT t s ++ stmtsT t l
end
end Go.Abs.Fr

namespace Go.Abs.Fr
open Go Go.Abs Go.Proofs
set_option linter.unusedSimpArgs false
set_option maxRecDepth 100000

theorem stmtT_eq (t : Nat) (s : Stmt) : stmtT t s = lineT t (headT s) ++ (if decide (s.op = 1) || decide (s.op = 2) then [] else stmtsT (t + 1) s.thn ++ ((if s.els.length = 0 then [] else lineT t [[125, 32, 101, 108, 115, 101, 32, 123]] ++ stmtsT (t + 1) s.els) ++ lineT t [[125]])) := by
  cases s; simp only [stmtT]; rfl
theorem stmtsT_append (t : Nat) : ∀ (l l' : List Stmt), stmtsT t (l ++ l') = stmtsT t l ++ stmtsT t l'
  | [], l' => by simp [stmtsT]
  | s :: l, l' => by simp only [List.cons_append, stmtsT, stmtsT_append t l l', List.append_assoc]
theorem stmtsT_snoc (t : Nat) (l : List Stmt) (i : Nat) (s : Stmt) (h : l[i]? = some s) : stmtsT t (l.take (i + 1)) = stmtsT t (l.take i) ++ stmtT t s := by
  obtain ⟨hi, he⟩ := List.getElem?_eq_some_iff.1 h
  rw [List.take_succ_eq_append_getElem hi, he, stmtsT_append]; simp [stmtsT]
theorem stmtsT_le (t : Nat) (l : List Stmt) (i : Nat) : (stmtsT t (l.take i)).length ≤ (stmtsT t l).length := by
  conv => rhs; rw [← List.take_append_drop i l, stmtsT_append]
  simp
theorem lineT_len (t : Nat) (l : List (List UInt8)) : (lineT t l).length = t + l.flatten.length + 1 := by simp [lineT]; omega

theorem hsetJ {h : List AObj} {id : Nat} (hid : id < h.length) (X : AObj) (J : List AObj) : ((h.set id X) ++ J)[id]? = some X := by
  rw [List.getElem?_append_left (by simpa using hid)]; exact hset hid X
theorem hsetJ2 {h : List AObj} {id : Nat} (hid : id < h.length) (X Y : AObj) (J : List AObj) : ((h.set id X) ++ J).set id Y = (h.set id Y) ++ J := by
  rw [List.set_append_left _ _ (by simpa using hid), hset2]
theorem hsetJ0 {h : List AObj} {id : Nat} (hid : id < h.length) (Y : AObj) (J : List AObj) : (h ++ J).set id Y = (h.set id Y) ++ J := List.set_append_left _ _ hid
theorem hgetJ {h : List AObj} {id : Nat} {X : AObj} (hid : h[id]? = some X) (J : List AObj) : (h ++ J)[id]? = some X := by
  rw [List.getElem?_append_left (List.getElem?_eq_some_iff.1 hid).1]; exact hid
theorem hlast {h : List AObj} {id : Nat} (X o : AObj) : ((h.set id X) ++ [o])[h.length]? = some o := by
  rw [List.getElem?_append_right (by simp)]; simp

/-- What the statements are written as, at the object that writes. -/
def Below25 (l : List Stmt) : Prop := ∀ (h : List AObj) (id : Nat) (out : List UInt8) (t : Nat), h[id]? = some (wr out t) → out.length + (stmtsT (t + 1) l).length ≤ 140737488355328 → t + 2 * szL l < 2 ^ 40 →
  Ev E0 25 [.ref id 0, bodyv l] h (fun r h' => r = .ret (.tup []) ∧ h' = h.set id (wr (out ++ stmtsT (t + 1) l) t))

set_option maxHeartbeats 4000000 in
theorem stmtw_ev (s : Stmt) (hw : wS s < 2 ^ 30) (ihT : Below25 s.thn) (ihE : Below25 s.els) (h : List AObj) (id : Nat) (out : List UInt8) (t : Nat) (hid : h[id]? = some (wr out t))
    (hlen : out.length + (stmtT t s).length ≤ 140737488355328) (ht : t + 2 * szS s ≤ 2 ^ 40) :
    Ev E0 48 [.ref id 0, stmtv s] h (fun r h' => r = .ret (.tup []) ∧ h' = h.set id (wr (out ++ stmtT t s) t)) := by
  refine ev_of (fn := Tryd.f48) (hs := []) Tryd.func48 c48 (by simp) fun hcl => ?_
  have hidl : id < h.length := (List.getElem?_eq_some_iff.1 hid).1
  have hss := szS_eq s
  rw [stmtT_eq, List.length_append, lineT_len] at hlen
  rw [stmtT_eq]
  have hcall := fun h => call_ev s hw h
  simp only [stmtv_eq] at hcall
  simp only [ac48, stmtv_eq, last_obj, List.drop_zero, List.drop_succ_cons, ne_eq, not_false_eq_true, Option.map_some, Option.map_none, List.map_cons, List.map_nil, Bool.not_true, Bool.not_false, decide_true, decide_false, List.getElem?_cons_zero, List.getElem?_cons_succ, ↓aw1, ↓aw2, ↓aw17, aw3, aw4, aw5, aw6, aw7, aw8, aw9, aw10, aw11, aw12, aw13, aw14, aw15, aw16, aw19, Nat.reduceLeDiff, if_true, if_false, Nat.reduceEqDiff, Nat.reduceAdd, beq_self_eq_true, beq_true, beq_false, Bool.false_eq_true]
  cases k1 : decide (s.op = 1)
  · cases k2 : decide (s.op = 2)
    · have hh : headT s = (if decide (s.op = 4) then [[102, 111, 114, 32], callT s, [32, 123]] else [[105, 102, 32], callT s, [32, 123]]) := by simp only [headT, k1, k2, Bool.false_eq_true, if_false]
      rw [hh] at hlen ⊢
      cases k4 : decide (s.op = 4)
      · skip
        simp only [k1, k2, k4, Bool.or_self, Bool.false_eq_true, if_false, if_true] at hlen
        simp only [k1, k2, k4, last_obj, List.take_succ_cons, List.take_zero, List.drop_zero, List.drop_succ_cons, Bool.or_self, ne_eq, not_false_eq_true, Option.map_some, Option.map_none, List.map_cons, List.map_nil, Bool.not_true, Bool.not_false, decide_true, decide_false, List.getElem?_cons_zero, List.getElem?_cons_succ, ↓aw1, ↓aw2, ↓aw17, aw3, aw4, aw5, aw6, aw7, aw8, aw9, aw10, aw11, aw12, aw13, aw14, aw15, aw16, aw19, Nat.reduceLeDiff, if_true, if_false, Nat.reduceEqDiff, Nat.reduceAdd, beq_self_eq_true, beq_true, beq_false, Bool.false_eq_true]
        refine EvF.ret (hcall _) ?_
        simp only [ne_eq, not_false_eq_true, Option.map_some, Option.map_none, List.map_cons, List.map_nil, Bool.not_true, Bool.not_false, decide_true, decide_false, List.getElem?_cons_zero, List.getElem?_cons_succ, ↓aw1, ↓aw2, ↓aw17, aw3, aw4, aw5, aw6, aw7, aw8, aw9, aw10, aw11, aw12, aw13, aw14, aw15, aw16, aw19, Nat.reduceLeDiff, if_true, if_false, Nat.reduceEqDiff, Nat.reduceAdd, beq_self_eq_true, beq_true, beq_false, Bool.false_eq_true]
        refine Need.mk ⟨rfl, by decide, by decide, fun p hp => by
          simp only [List.mem_cons, List.not_mem_nil, or_false] at hp
          rcases hp with rfl | rfl | rfl <;> exact ⟨rfl, rfl, rfl⟩⟩ ?_
        simp only [ne_eq, not_false_eq_true, Option.map_some, Option.map_none, List.map_cons, List.map_nil, Bool.not_true, Bool.not_false, decide_true, decide_false, List.getElem?_cons_zero, List.getElem?_cons_succ, ↓aw1, ↓aw2, ↓aw17, aw3, aw4, aw5, aw6, aw7, aw8, aw9, aw10, aw11, aw12, aw13, aw14, aw15, aw16, aw19, Nat.reduceLeDiff, if_true, if_false, Nat.reduceEqDiff, Nat.reduceAdd, beq_self_eq_true, beq_true, beq_false, Bool.false_eq_true]
        refine EvF.use (line_ev [[105, 102, 32], callT s, [32, 123]] (hgetJ hid _) (by simp) (by omega)) ?_
        rintro r h' ⟨rfl, rfl⟩
        simp only [hsetJ0 hidl, hlast, List.drop_zero, List.drop_succ_cons, ne_eq, not_false_eq_true, Option.map_some, Option.map_none, List.map_cons, List.map_nil, Bool.not_true, Bool.not_false, decide_true, decide_false, List.getElem?_cons_zero, List.getElem?_cons_succ, ↓aw1, ↓aw2, ↓aw17, aw3, aw4, aw5, aw6, aw7, aw8, aw9, aw10, aw11, aw12, aw13, aw14, aw15, aw16, aw19, Nat.reduceLeDiff, if_true, if_false, Nat.reduceEqDiff, Nat.reduceAdd, beq_self_eq_true, beq_true, beq_false, Bool.false_eq_true]
        refine EvF.use (ihT _ id _ t (hsetJ hidl _ _) (by simp only [List.length_append, lineT_len, List.length_replicate, List.length_cons, List.length_nil] at hlen ⊢; omega) (by omega)) ?_
        rintro r h' ⟨rfl, rfl⟩
        simp only [hsetJ2 hidl, hlast, List.drop_zero, List.drop_succ_cons, List.length_map, ne_eq, not_false_eq_true, Option.map_some, Option.map_none, List.map_cons, List.map_nil, Bool.not_true, Bool.not_false, decide_true, decide_false, List.getElem?_cons_zero, List.getElem?_cons_succ, ↓aw1, ↓aw2, ↓aw17, aw3, aw4, aw5, aw6, aw7, aw8, aw9, aw10, aw11, aw12, aw13, aw14, aw15, aw16, aw19, Nat.reduceLeDiff, if_true, if_false, Nat.reduceEqDiff, Nat.reduceAdd, beq_self_eq_true, beq_true, beq_false, Bool.false_eq_true]
        cases e0 : decide (s.els.length = 0)
        · have ez : ¬ s.els.length = 0 := by rw [decide_eq_false_iff_not] at e0; exact e0
          have eb : decide ((0 : Int) < (s.els.length : Int)) = true := by rw [decide_eq_true_eq]; omega
          rw [if_neg ez] at hlen
          simp only [eb, hsetJ2 hidl, hlast, List.drop_zero, List.drop_succ_cons, ne_eq, not_false_eq_true, Option.map_some, Option.map_none, List.map_cons, List.map_nil, Bool.not_true, Bool.not_false, decide_true, decide_false, List.getElem?_cons_zero, List.getElem?_cons_succ, ↓aw1, ↓aw2, ↓aw17, aw3, aw4, aw5, aw6, aw7, aw8, aw9, aw10, aw11, aw12, aw13, aw14, aw15, aw16, aw19, Nat.reduceLeDiff, if_true, if_false, Nat.reduceEqDiff, Nat.reduceAdd, beq_self_eq_true, beq_true, beq_false, Bool.false_eq_true]
          refine Need.mk ⟨rfl, by decide, by decide, fun p hp => by simp only [List.mem_singleton] at hp; subst hp; exact ⟨rfl, rfl, rfl⟩⟩ ?_
          simp only [ne_eq, not_false_eq_true, Option.map_some, Option.map_none, List.map_cons, List.map_nil, Bool.not_true, Bool.not_false, decide_true, decide_false, List.getElem?_cons_zero, List.getElem?_cons_succ, ↓aw1, ↓aw2, ↓aw17, aw3, aw4, aw5, aw6, aw7, aw8, aw9, aw10, aw11, aw12, aw13, aw14, aw15, aw16, aw19, Nat.reduceLeDiff, if_true, if_false, Nat.reduceEqDiff, Nat.reduceAdd, beq_self_eq_true, beq_true, beq_false, Bool.false_eq_true]
          refine EvF.use (line_ev [[125, 32, 101, 108, 115, 101, 32, 123]] (hsetJ hidl _ _) (by simp) (by simp only [List.length_append, lineT_len, List.length_replicate, List.length_cons, List.length_nil] at hlen ⊢; omega)) ?_
          rintro r h' ⟨rfl, rfl⟩
          simp only [hsetJ2 hidl, hlast, List.drop_zero, List.drop_succ_cons, ne_eq, not_false_eq_true, Option.map_some, Option.map_none, List.map_cons, List.map_nil, Bool.not_true, Bool.not_false, decide_true, decide_false, List.getElem?_cons_zero, List.getElem?_cons_succ, ↓aw1, ↓aw2, ↓aw17, aw3, aw4, aw5, aw6, aw7, aw8, aw9, aw10, aw11, aw12, aw13, aw14, aw15, aw16, aw19, Nat.reduceLeDiff, if_true, if_false, Nat.reduceEqDiff, Nat.reduceAdd, beq_self_eq_true, beq_true, beq_false, Bool.false_eq_true]
          refine EvF.use (ihE _ id _ t (hsetJ hidl _ _) (by simp only [List.length_append, lineT_len, List.length_replicate, List.length_cons, List.length_nil] at hlen ⊢; omega) (by omega)) ?_
          rintro r h' ⟨rfl, rfl⟩
          simp only [hsetJ2 hidl, hlast, List.drop_zero, List.drop_succ_cons, ne_eq, not_false_eq_true, Option.map_some, Option.map_none, List.map_cons, List.map_nil, Bool.not_true, Bool.not_false, decide_true, decide_false, List.getElem?_cons_zero, List.getElem?_cons_succ, ↓aw1, ↓aw2, ↓aw17, aw3, aw4, aw5, aw6, aw7, aw8, aw9, aw10, aw11, aw12, aw13, aw14, aw15, aw16, aw19, Nat.reduceLeDiff, if_true, if_false, Nat.reduceEqDiff, Nat.reduceAdd, beq_self_eq_true, beq_true, beq_false, Bool.false_eq_true]
          refine Need.mk ⟨rfl, by decide, by decide, fun p hp => by simp only [List.mem_singleton] at hp; subst hp; exact ⟨rfl, rfl, rfl⟩⟩ ?_
          simp only [ne_eq, not_false_eq_true, Option.map_some, Option.map_none, List.map_cons, List.map_nil, Bool.not_true, Bool.not_false, decide_true, decide_false, List.getElem?_cons_zero, List.getElem?_cons_succ, ↓aw1, ↓aw2, ↓aw17, aw3, aw4, aw5, aw6, aw7, aw8, aw9, aw10, aw11, aw12, aw13, aw14, aw15, aw16, aw19, Nat.reduceLeDiff, if_true, if_false, Nat.reduceEqDiff, Nat.reduceAdd, beq_self_eq_true, beq_true, beq_false, Bool.false_eq_true]
          refine EvF.use (line_ev [[125]] (hsetJ hidl _ _) (by simp) (by simp only [List.length_append, lineT_len, List.length_replicate, List.length_cons, List.length_nil] at hlen ⊢; omega)) ?_
          rintro r h' ⟨rfl, rfl⟩
          simp only [hsetJ2 hidl, ne_eq, not_false_eq_true, Option.map_some, Option.map_none, List.map_cons, List.map_nil, Bool.not_true, Bool.not_false, decide_true, decide_false, List.getElem?_cons_zero, List.getElem?_cons_succ, ↓aw1, ↓aw2, ↓aw17, aw3, aw4, aw5, aw6, aw7, aw8, aw9, aw10, aw11, aw12, aw13, aw14, aw15, aw16, aw19, Nat.reduceLeDiff, if_true, if_false, Nat.reduceEqDiff, Nat.reduceAdd, beq_self_eq_true, beq_true, beq_false, Bool.false_eq_true]
          refine Fin.junk rfl (by simp) (closed_set hcl rfl) rfl ⟨rfl, ?_⟩
          simp only [k1, k2, k4, hh, if_neg ez, Bool.or_self, Bool.false_eq_true, if_false, if_true, lineT, List.append_assoc]
        · have ez : s.els.length = 0 := by rw [decide_eq_true_eq] at e0; exact e0
          have eb : decide ((0 : Int) < (s.els.length : Int)) = false := by rw [decide_eq_false_iff_not]; omega
          rw [if_pos ez] at hlen
          simp only [eb, hsetJ2 hidl, hlast, List.drop_zero, List.drop_succ_cons, ne_eq, not_false_eq_true, Option.map_some, Option.map_none, List.map_cons, List.map_nil, Bool.not_true, Bool.not_false, decide_true, decide_false, List.getElem?_cons_zero, List.getElem?_cons_succ, ↓aw1, ↓aw2, ↓aw17, aw3, aw4, aw5, aw6, aw7, aw8, aw9, aw10, aw11, aw12, aw13, aw14, aw15, aw16, aw19, Nat.reduceLeDiff, if_true, if_false, Nat.reduceEqDiff, Nat.reduceAdd, beq_self_eq_true, beq_true, beq_false, Bool.false_eq_true]
          refine Need.mk ⟨rfl, by decide, by decide, fun p hp => by simp only [List.mem_singleton] at hp; subst hp; exact ⟨rfl, rfl, rfl⟩⟩ ?_
          simp only [ne_eq, not_false_eq_true, Option.map_some, Option.map_none, List.map_cons, List.map_nil, Bool.not_true, Bool.not_false, decide_true, decide_false, List.getElem?_cons_zero, List.getElem?_cons_succ, ↓aw1, ↓aw2, ↓aw17, aw3, aw4, aw5, aw6, aw7, aw8, aw9, aw10, aw11, aw12, aw13, aw14, aw15, aw16, aw19, Nat.reduceLeDiff, if_true, if_false, Nat.reduceEqDiff, Nat.reduceAdd, beq_self_eq_true, beq_true, beq_false, Bool.false_eq_true]
          refine EvF.use (line_ev [[125]] (hsetJ hidl _ _) (by simp) (by simp only [List.length_append, lineT_len, List.length_replicate, List.length_cons, List.length_nil] at hlen ⊢; omega)) ?_
          rintro r h' ⟨rfl, rfl⟩
          simp only [hsetJ2 hidl, ne_eq, not_false_eq_true, Option.map_some, Option.map_none, List.map_cons, List.map_nil, Bool.not_true, Bool.not_false, decide_true, decide_false, List.getElem?_cons_zero, List.getElem?_cons_succ, ↓aw1, ↓aw2, ↓aw17, aw3, aw4, aw5, aw6, aw7, aw8, aw9, aw10, aw11, aw12, aw13, aw14, aw15, aw16, aw19, Nat.reduceLeDiff, if_true, if_false, Nat.reduceEqDiff, Nat.reduceAdd, beq_self_eq_true, beq_true, beq_false, Bool.false_eq_true]
          refine Fin.junk rfl (by simp) (closed_set hcl rfl) rfl ⟨rfl, ?_⟩
          simp only [k1, k2, k4, hh, if_pos ez, Bool.or_self, Bool.false_eq_true, if_false, if_true, lineT, List.append_assoc, List.nil_append]
      · skip
        simp only [k1, k2, k4, Bool.or_self, Bool.false_eq_true, if_false, if_true] at hlen
        simp only [k1, k2, k4, last_obj, List.take_succ_cons, List.take_zero, List.drop_zero, List.drop_succ_cons, Bool.or_self, ne_eq, not_false_eq_true, Option.map_some, Option.map_none, List.map_cons, List.map_nil, Bool.not_true, Bool.not_false, decide_true, decide_false, List.getElem?_cons_zero, List.getElem?_cons_succ, ↓aw1, ↓aw2, ↓aw17, aw3, aw4, aw5, aw6, aw7, aw8, aw9, aw10, aw11, aw12, aw13, aw14, aw15, aw16, aw19, Nat.reduceLeDiff, if_true, if_false, Nat.reduceEqDiff, Nat.reduceAdd, beq_self_eq_true, beq_true, beq_false, Bool.false_eq_true]
        refine EvF.ret (hcall _) ?_
        simp only [ne_eq, not_false_eq_true, Option.map_some, Option.map_none, List.map_cons, List.map_nil, Bool.not_true, Bool.not_false, decide_true, decide_false, List.getElem?_cons_zero, List.getElem?_cons_succ, ↓aw1, ↓aw2, ↓aw17, aw3, aw4, aw5, aw6, aw7, aw8, aw9, aw10, aw11, aw12, aw13, aw14, aw15, aw16, aw19, Nat.reduceLeDiff, if_true, if_false, Nat.reduceEqDiff, Nat.reduceAdd, beq_self_eq_true, beq_true, beq_false, Bool.false_eq_true]
        refine Need.mk ⟨rfl, by decide, by decide, fun p hp => by
          simp only [List.mem_cons, List.not_mem_nil, or_false] at hp
          rcases hp with rfl | rfl | rfl <;> exact ⟨rfl, rfl, rfl⟩⟩ ?_
        simp only [ne_eq, not_false_eq_true, Option.map_some, Option.map_none, List.map_cons, List.map_nil, Bool.not_true, Bool.not_false, decide_true, decide_false, List.getElem?_cons_zero, List.getElem?_cons_succ, ↓aw1, ↓aw2, ↓aw17, aw3, aw4, aw5, aw6, aw7, aw8, aw9, aw10, aw11, aw12, aw13, aw14, aw15, aw16, aw19, Nat.reduceLeDiff, if_true, if_false, Nat.reduceEqDiff, Nat.reduceAdd, beq_self_eq_true, beq_true, beq_false, Bool.false_eq_true]
        refine EvF.use (line_ev [[102, 111, 114, 32], callT s, [32, 123]] (hgetJ hid _) (by simp) (by omega)) ?_
        rintro r h' ⟨rfl, rfl⟩
        simp only [hsetJ0 hidl, hlast, List.drop_zero, List.drop_succ_cons, ne_eq, not_false_eq_true, Option.map_some, Option.map_none, List.map_cons, List.map_nil, Bool.not_true, Bool.not_false, decide_true, decide_false, List.getElem?_cons_zero, List.getElem?_cons_succ, ↓aw1, ↓aw2, ↓aw17, aw3, aw4, aw5, aw6, aw7, aw8, aw9, aw10, aw11, aw12, aw13, aw14, aw15, aw16, aw19, Nat.reduceLeDiff, if_true, if_false, Nat.reduceEqDiff, Nat.reduceAdd, beq_self_eq_true, beq_true, beq_false, Bool.false_eq_true]
        refine EvF.use (ihT _ id _ t (hsetJ hidl _ _) (by simp only [List.length_append, lineT_len, List.length_replicate, List.length_cons, List.length_nil] at hlen ⊢; omega) (by omega)) ?_
        rintro r h' ⟨rfl, rfl⟩
        simp only [hsetJ2 hidl, hlast, List.drop_zero, List.drop_succ_cons, List.length_map, ne_eq, not_false_eq_true, Option.map_some, Option.map_none, List.map_cons, List.map_nil, Bool.not_true, Bool.not_false, decide_true, decide_false, List.getElem?_cons_zero, List.getElem?_cons_succ, ↓aw1, ↓aw2, ↓aw17, aw3, aw4, aw5, aw6, aw7, aw8, aw9, aw10, aw11, aw12, aw13, aw14, aw15, aw16, aw19, Nat.reduceLeDiff, if_true, if_false, Nat.reduceEqDiff, Nat.reduceAdd, beq_self_eq_true, beq_true, beq_false, Bool.false_eq_true]
        cases e0 : decide (s.els.length = 0)
        · have ez : ¬ s.els.length = 0 := by rw [decide_eq_false_iff_not] at e0; exact e0
          have eb : decide ((0 : Int) < (s.els.length : Int)) = true := by rw [decide_eq_true_eq]; omega
          rw [if_neg ez] at hlen
          simp only [eb, hsetJ2 hidl, hlast, List.drop_zero, List.drop_succ_cons, ne_eq, not_false_eq_true, Option.map_some, Option.map_none, List.map_cons, List.map_nil, Bool.not_true, Bool.not_false, decide_true, decide_false, List.getElem?_cons_zero, List.getElem?_cons_succ, ↓aw1, ↓aw2, ↓aw17, aw3, aw4, aw5, aw6, aw7, aw8, aw9, aw10, aw11, aw12, aw13, aw14, aw15, aw16, aw19, Nat.reduceLeDiff, if_true, if_false, Nat.reduceEqDiff, Nat.reduceAdd, beq_self_eq_true, beq_true, beq_false, Bool.false_eq_true]
          refine Need.mk ⟨rfl, by decide, by decide, fun p hp => by simp only [List.mem_singleton] at hp; subst hp; exact ⟨rfl, rfl, rfl⟩⟩ ?_
          simp only [ne_eq, not_false_eq_true, Option.map_some, Option.map_none, List.map_cons, List.map_nil, Bool.not_true, Bool.not_false, decide_true, decide_false, List.getElem?_cons_zero, List.getElem?_cons_succ, ↓aw1, ↓aw2, ↓aw17, aw3, aw4, aw5, aw6, aw7, aw8, aw9, aw10, aw11, aw12, aw13, aw14, aw15, aw16, aw19, Nat.reduceLeDiff, if_true, if_false, Nat.reduceEqDiff, Nat.reduceAdd, beq_self_eq_true, beq_true, beq_false, Bool.false_eq_true]
          refine EvF.use (line_ev [[125, 32, 101, 108, 115, 101, 32, 123]] (hsetJ hidl _ _) (by simp) (by simp only [List.length_append, lineT_len, List.length_replicate, List.length_cons, List.length_nil] at hlen ⊢; omega)) ?_
          rintro r h' ⟨rfl, rfl⟩
          simp only [hsetJ2 hidl, hlast, List.drop_zero, List.drop_succ_cons, ne_eq, not_false_eq_true, Option.map_some, Option.map_none, List.map_cons, List.map_nil, Bool.not_true, Bool.not_false, decide_true, decide_false, List.getElem?_cons_zero, List.getElem?_cons_succ, ↓aw1, ↓aw2, ↓aw17, aw3, aw4, aw5, aw6, aw7, aw8, aw9, aw10, aw11, aw12, aw13, aw14, aw15, aw16, aw19, Nat.reduceLeDiff, if_true, if_false, Nat.reduceEqDiff, Nat.reduceAdd, beq_self_eq_true, beq_true, beq_false, Bool.false_eq_true]
          refine EvF.use (ihE _ id _ t (hsetJ hidl _ _) (by simp only [List.length_append, lineT_len, List.length_replicate, List.length_cons, List.length_nil] at hlen ⊢; omega) (by omega)) ?_
          rintro r h' ⟨rfl, rfl⟩
          simp only [hsetJ2 hidl, hlast, List.drop_zero, List.drop_succ_cons, ne_eq, not_false_eq_true, Option.map_some, Option.map_none, List.map_cons, List.map_nil, Bool.not_true, Bool.not_false, decide_true, decide_false, List.getElem?_cons_zero, List.getElem?_cons_succ, ↓aw1, ↓aw2, ↓aw17, aw3, aw4, aw5, aw6, aw7, aw8, aw9, aw10, aw11, aw12, aw13, aw14, aw15, aw16, aw19, Nat.reduceLeDiff, if_true, if_false, Nat.reduceEqDiff, Nat.reduceAdd, beq_self_eq_true, beq_true, beq_false, Bool.false_eq_true]
          refine Need.mk ⟨rfl, by decide, by decide, fun p hp => by simp only [List.mem_singleton] at hp; subst hp; exact ⟨rfl, rfl, rfl⟩⟩ ?_
          simp only [ne_eq, not_false_eq_true, Option.map_some, Option.map_none, List.map_cons, List.map_nil, Bool.not_true, Bool.not_false, decide_true, decide_false, List.getElem?_cons_zero, List.getElem?_cons_succ, ↓aw1, ↓aw2, ↓aw17, aw3, aw4, aw5, aw6, aw7, aw8, aw9, aw10, aw11, aw12, aw13, aw14, aw15, aw16, aw19, Nat.reduceLeDiff, if_true, if_false, Nat.reduceEqDiff, Nat.reduceAdd, beq_self_eq_true, beq_true, beq_false, Bool.false_eq_true]
          refine EvF.use (line_ev [[125]] (hsetJ hidl _ _) (by simp) (by simp only [List.length_append, lineT_len, List.length_replicate, List.length_cons, List.length_nil] at hlen ⊢; omega)) ?_
          rintro r h' ⟨rfl, rfl⟩
          simp only [hsetJ2 hidl, ne_eq, not_false_eq_true, Option.map_some, Option.map_none, List.map_cons, List.map_nil, Bool.not_true, Bool.not_false, decide_true, decide_false, List.getElem?_cons_zero, List.getElem?_cons_succ, ↓aw1, ↓aw2, ↓aw17, aw3, aw4, aw5, aw6, aw7, aw8, aw9, aw10, aw11, aw12, aw13, aw14, aw15, aw16, aw19, Nat.reduceLeDiff, if_true, if_false, Nat.reduceEqDiff, Nat.reduceAdd, beq_self_eq_true, beq_true, beq_false, Bool.false_eq_true]
          refine Fin.junk rfl (by simp) (closed_set hcl rfl) rfl ⟨rfl, ?_⟩
          simp only [k1, k2, k4, hh, if_neg ez, Bool.or_self, Bool.false_eq_true, if_false, if_true, lineT, List.append_assoc]
        · have ez : s.els.length = 0 := by rw [decide_eq_true_eq] at e0; exact e0
          have eb : decide ((0 : Int) < (s.els.length : Int)) = false := by rw [decide_eq_false_iff_not]; omega
          rw [if_pos ez] at hlen
          simp only [eb, hsetJ2 hidl, hlast, List.drop_zero, List.drop_succ_cons, ne_eq, not_false_eq_true, Option.map_some, Option.map_none, List.map_cons, List.map_nil, Bool.not_true, Bool.not_false, decide_true, decide_false, List.getElem?_cons_zero, List.getElem?_cons_succ, ↓aw1, ↓aw2, ↓aw17, aw3, aw4, aw5, aw6, aw7, aw8, aw9, aw10, aw11, aw12, aw13, aw14, aw15, aw16, aw19, Nat.reduceLeDiff, if_true, if_false, Nat.reduceEqDiff, Nat.reduceAdd, beq_self_eq_true, beq_true, beq_false, Bool.false_eq_true]
          refine Need.mk ⟨rfl, by decide, by decide, fun p hp => by simp only [List.mem_singleton] at hp; subst hp; exact ⟨rfl, rfl, rfl⟩⟩ ?_
          simp only [ne_eq, not_false_eq_true, Option.map_some, Option.map_none, List.map_cons, List.map_nil, Bool.not_true, Bool.not_false, decide_true, decide_false, List.getElem?_cons_zero, List.getElem?_cons_succ, ↓aw1, ↓aw2, ↓aw17, aw3, aw4, aw5, aw6, aw7, aw8, aw9, aw10, aw11, aw12, aw13, aw14, aw15, aw16, aw19, Nat.reduceLeDiff, if_true, if_false, Nat.reduceEqDiff, Nat.reduceAdd, beq_self_eq_true, beq_true, beq_false, Bool.false_eq_true]
          refine EvF.use (line_ev [[125]] (hsetJ hidl _ _) (by simp) (by simp only [List.length_append, lineT_len, List.length_replicate, List.length_cons, List.length_nil] at hlen ⊢; omega)) ?_
          rintro r h' ⟨rfl, rfl⟩
          simp only [hsetJ2 hidl, ne_eq, not_false_eq_true, Option.map_some, Option.map_none, List.map_cons, List.map_nil, Bool.not_true, Bool.not_false, decide_true, decide_false, List.getElem?_cons_zero, List.getElem?_cons_succ, ↓aw1, ↓aw2, ↓aw17, aw3, aw4, aw5, aw6, aw7, aw8, aw9, aw10, aw11, aw12, aw13, aw14, aw15, aw16, aw19, Nat.reduceLeDiff, if_true, if_false, Nat.reduceEqDiff, Nat.reduceAdd, beq_self_eq_true, beq_true, beq_false, Bool.false_eq_true]
          refine Fin.junk rfl (by simp) (closed_set hcl rfl) rfl ⟨rfl, ?_⟩
          simp only [k1, k2, k4, hh, if_pos ez, Bool.or_self, Bool.false_eq_true, if_false, if_true, lineT, List.append_assoc, List.nil_append]
    · have hh : headT s = [s.name.data.toList, [40, 99, 41]] := by simp only [headT, k1, k2, Bool.false_eq_true, if_false, if_true]
      rw [hh] at hlen
      simp only [k1, k2, Bool.or_true, if_true, List.length_nil, Nat.add_zero] at hlen
      simp only [k1, k2, last_obj, List.take_succ_cons, List.take_zero, List.drop_zero, List.drop_succ_cons, Bool.or_true, ne_eq, not_false_eq_true, Option.map_some, Option.map_none, List.map_cons, List.map_nil, Bool.not_true, Bool.not_false, decide_true, decide_false, List.getElem?_cons_zero, List.getElem?_cons_succ, ↓aw1, ↓aw2, ↓aw17, aw3, aw4, aw5, aw6, aw7, aw8, aw9, aw10, aw11, aw12, aw13, aw14, aw15, aw16, aw19, Nat.reduceLeDiff, if_true, if_false, Nat.reduceEqDiff, Nat.reduceAdd, beq_self_eq_true, beq_true, beq_false, Bool.false_eq_true]
      refine Need.mk ⟨rfl, by decide, by decide, fun p hp => by
        simp only [List.mem_cons, List.not_mem_nil, or_false] at hp
        rcases hp with rfl | rfl <;> exact ⟨rfl, rfl, rfl⟩⟩ ?_
      simp only [ne_eq, not_false_eq_true, Option.map_some, Option.map_none, List.map_cons, List.map_nil, Bool.not_true, Bool.not_false, decide_true, decide_false, List.getElem?_cons_zero, List.getElem?_cons_succ, ↓aw1, ↓aw2, ↓aw17, aw3, aw4, aw5, aw6, aw7, aw8, aw9, aw10, aw11, aw12, aw13, aw14, aw15, aw16, aw19, Nat.reduceLeDiff, if_true, if_false, Nat.reduceEqDiff, Nat.reduceAdd, beq_self_eq_true, beq_true, beq_false, Bool.false_eq_true]
      refine EvF.use (line_ev [s.name.data.toList, [40, 99, 41]] (hgetJ hid _) (by simp) (by omega)) ?_
      rintro r h' ⟨rfl, rfl⟩
      simp only [hsetJ0 hidl, ne_eq, not_false_eq_true, Option.map_some, Option.map_none, List.map_cons, List.map_nil, Bool.not_true, Bool.not_false, decide_true, decide_false, List.getElem?_cons_zero, List.getElem?_cons_succ, ↓aw1, ↓aw2, ↓aw17, aw3, aw4, aw5, aw6, aw7, aw8, aw9, aw10, aw11, aw12, aw13, aw14, aw15, aw16, aw19, Nat.reduceLeDiff, if_true, if_false, Nat.reduceEqDiff, Nat.reduceAdd, beq_self_eq_true, beq_true, beq_false, Bool.false_eq_true]
      exact Fin.junk rfl (by simp) (closed_set hcl rfl) rfl ⟨rfl, by simp only [hh, k1, k2, Bool.or_true, if_true, List.append_nil]; rfl⟩
  · have hh : headT s = [callT s] := by simp only [headT, k1, if_true]
    rw [hh] at hlen
    simp only [k1, Bool.true_or, if_true, List.length_nil, Nat.add_zero] at hlen
    simp only [k1, last_obj, List.take_succ_cons, List.take_zero, List.drop_zero, List.drop_succ_cons, Bool.true_or, ne_eq, not_false_eq_true, Option.map_some, Option.map_none, List.map_cons, List.map_nil, Bool.not_true, Bool.not_false, decide_true, decide_false, List.getElem?_cons_zero, List.getElem?_cons_succ, ↓aw1, ↓aw2, ↓aw17, aw3, aw4, aw5, aw6, aw7, aw8, aw9, aw10, aw11, aw12, aw13, aw14, aw15, aw16, aw19, Nat.reduceLeDiff, if_true, if_false, Nat.reduceEqDiff, Nat.reduceAdd, beq_self_eq_true, beq_true, beq_false, Bool.false_eq_true]
    refine EvF.ret (hcall _) ?_
    simp only [ne_eq, not_false_eq_true, Option.map_some, Option.map_none, List.map_cons, List.map_nil, Bool.not_true, Bool.not_false, decide_true, decide_false, List.getElem?_cons_zero, List.getElem?_cons_succ, ↓aw1, ↓aw2, ↓aw17, aw3, aw4, aw5, aw6, aw7, aw8, aw9, aw10, aw11, aw12, aw13, aw14, aw15, aw16, aw19, Nat.reduceLeDiff, if_true, if_false, Nat.reduceEqDiff, Nat.reduceAdd, beq_self_eq_true, beq_true, beq_false, Bool.false_eq_true]
    refine Need.mk ⟨rfl, by decide, by decide, fun p hp => by simp only [List.mem_singleton] at hp; subst hp; exact ⟨rfl, rfl, rfl⟩⟩ ?_
    simp only [ne_eq, not_false_eq_true, Option.map_some, Option.map_none, List.map_cons, List.map_nil, Bool.not_true, Bool.not_false, decide_true, decide_false, List.getElem?_cons_zero, List.getElem?_cons_succ, ↓aw1, ↓aw2, ↓aw17, aw3, aw4, aw5, aw6, aw7, aw8, aw9, aw10, aw11, aw12, aw13, aw14, aw15, aw16, aw19, Nat.reduceLeDiff, if_true, if_false, Nat.reduceEqDiff, Nat.reduceAdd, beq_self_eq_true, beq_true, beq_false, Bool.false_eq_true]
    refine EvF.use (line_ev [callT s] (hgetJ hid _) (by simp) (by omega)) ?_
    rintro r h' ⟨rfl, rfl⟩
    simp only [hsetJ0 hidl, ne_eq, not_false_eq_true, Option.map_some, Option.map_none, List.map_cons, List.map_nil, Bool.not_true, Bool.not_false, decide_true, decide_false, List.getElem?_cons_zero, List.getElem?_cons_succ, ↓aw1, ↓aw2, ↓aw17, aw3, aw4, aw5, aw6, aw7, aw8, aw9, aw10, aw11, aw12, aw13, aw14, aw15, aw16, aw19, Nat.reduceLeDiff, if_true, if_false, Nat.reduceEqDiff, Nat.reduceAdd, beq_self_eq_true, beq_true, beq_false, Bool.false_eq_true]
    exact Fin.junk rfl (by simp) (closed_set hcl rfl) rfl ⟨rfl, by simp only [hh, Bool.true_or, if_true, List.append_nil]; rfl⟩

theorem stmtsT_mem_le (t : Nat) (l : List Stmt) (i : Nat) (s : Stmt) (h : l[i]? = some s) : (stmtsT t (l.take i)).length + (stmtT t s).length ≤ (stmtsT t l).length := by
  have h1 := stmtsT_le t l (i + 1)
  rw [stmtsT_snoc t l i s h, List.length_append] at h1
  exact h1

theorem below_ev : ∀ (k : Nat) (l : List Stmt), szL l ≤ k → wL l < 2 ^ 30 → Below25 l := by
  intro k
  induction k using Nat.strongRecOn with
  | _ k ih =>
    intro l hk hw h id out t hid hlen ht
    refine ev_of (fn := Tryd.f25) (hs := []) Tryd.func25 c25 (by simp) fun hcl => ?_
    have hidl : id < h.length := (List.getElem?_eq_some_iff.1 hid).1
    have hll := wL_len l
    have wt : IntKind.i64.wrap ((t : Int) + 1) = ((t + 1 : Nat) : Int) := by rw [wrap_i64] <;> omega
    have wt2 : IntKind.i64.wrap (((t + 1 : Nat) : Int) - 1) = (t : Int) := by rw [wrap_i64] <;> omega
    have sm : ∀ x y : AV, ∀ o, setMany [AV.bp 48, AV.buf 5 o, x] 2 [y] = [AV.bp 48, AV.buf 5 o, y] := fun _ _ _ => rfl
    simp only [ac25, hid, wt, sm, List.length_map, List.drop_zero, List.drop_succ_cons, ne_eq, not_false_eq_true, Option.map_some, Option.map_none, List.map_cons, List.map_nil, Bool.not_true, Bool.not_false, decide_true, decide_false, List.getElem?_cons_zero, List.getElem?_cons_succ, ↓aw1, ↓aw2, ↓aw17, aw3, aw4, aw5, aw6, aw7, aw8, aw9, aw10, aw11, aw12, aw13, aw14, aw15, aw16, aw19, Nat.reduceLeDiff, if_true, if_false, Nat.reduceEqDiff, Nat.reduceAdd, beq_self_eq_true, beq_true, beq_false, Bool.false_eq_true]
    refine LoopF.by (α := Nat × List AObj) (fun x => ⟨[(0, .ref id 0), (13, bodyv l), (14, i64 l.length), (15, i64 x.1)], (h.set id (wr (out ++ stmtsT (t + 1) (l.take x.1)) (t + 1))) ++ x.2⟩) (fun x => l.length - x.1)
      (fun x => x.1 ≤ l.length) (0, []) (Nat.zero_le _) (weak_of (by simp only [List.take_zero, stmtsT, List.append_nil]) (by simp [look])) ?_
    rintro ⟨i, J⟩ h1
    simp only at h1
    by_cases hi : i < l.length
    · obtain ⟨s, hs⟩ : ∃ s, l[i]? = some s := ⟨_, List.getElem?_eq_getElem hi⟩
      have e1 : decide ((i : Int) < (l.length : Int)) = true := by rw [decide_eq_true_eq]; omega
      have w3 : IntKind.i64.wrap ((i : Int) + 1) = ((i + 1 : Nat) : Int) := by rw [wrap_i64] <;> omega
      have hmem := List.mem_of_getElem? hs
      have hws := wS_eq s
      have hwm := wL_mem hmem
      have hsz := szS_eq s
      have hsm := szL_mem hmem
      have hsn := stmtsT_snoc (t + 1) l i s hs
      have hle := stmtsT_mem_le (t + 1) l i s hs
      have hst := fun hh o hid hlen => stmtw_ev s (by omega) (ih (szL s.thn) (by omega) s.thn (Nat.le_refl _) (by omega)) (ih (szL s.els) (by omega) s.els (Nat.le_refl _) (by omega)) hh id o (t + 1) hid hlen (by omega)
      simp only [stmtv_eq] at hst
      simp only [e1, ne_eq, not_false_eq_true, Option.map_some, Option.map_none, List.map_cons, List.map_nil, Bool.not_true, Bool.not_false, decide_true, decide_false, List.getElem?_cons_zero, List.getElem?_cons_succ, ↓aw1, ↓aw2, ↓aw17, aw3, aw4, aw5, aw6, aw7, aw8, aw9, aw10, aw11, aw12, aw13, aw14, aw15, aw16, aw19, Nat.reduceLeDiff, if_true, if_false, Nat.reduceEqDiff, Nat.reduceAdd, beq_self_eq_true, beq_true, beq_false, Bool.false_eq_true]
      refine Need.mk ⟨by omega, by first | omega | (simp; omega)⟩ (Elem.recs (map_get stmtv l i s hs) (by rw [stmtv_eq]; exact ⟨rfl, rfl⟩) ?_)
      simp only [stmtv_eq, getJ, setJ, List.take_succ_cons, List.take_zero, List.drop_zero, List.drop_succ_cons, ne_eq, not_false_eq_true, Option.map_some, Option.map_none, List.map_cons, List.map_nil, Bool.not_true, Bool.not_false, decide_true, decide_false, List.getElem?_cons_zero, List.getElem?_cons_succ, ↓aw1, ↓aw2, ↓aw17, aw3, aw4, aw5, aw6, aw7, aw8, aw9, aw10, aw11, aw12, aw13, aw14, aw15, aw16, aw19, Nat.reduceLeDiff, if_true, if_false, Nat.reduceEqDiff, Nat.reduceAdd, beq_self_eq_true, beq_true, beq_false, Bool.false_eq_true]
      refine EvF.use (hst _ (out ++ stmtsT (t + 1) (l.take i)) (by rw [List.append_assoc]; exact hsetJ hidl _ _) (by rw [List.length_append]; omega)) ?_
      rintro r h' ⟨rfl, rfl⟩
      simp only [w3, ne_eq, not_false_eq_true, Option.map_some, Option.map_none, List.map_cons, List.map_nil, Bool.not_true, Bool.not_false, decide_true, decide_false, List.getElem?_cons_zero, List.getElem?_cons_succ, ↓aw1, ↓aw2, ↓aw17, aw3, aw4, aw5, aw6, aw7, aw8, aw9, aw10, aw11, aw12, aw13, aw14, aw15, aw16, aw19, Nat.reduceLeDiff, if_true, if_false, Nat.reduceEqDiff, Nat.reduceAdd, beq_self_eq_true, beq_true, beq_false, Bool.false_eq_true]
      refine ⟨(i + 1, J ++ [.cells [i64 s.op, str s.name, argsv s.args, bodyv s.thn, bodyv s.els]]), by simp only; omega, by simp only; omega, weak_of ?_ (by simp [look])⟩
      rw [List.append_assoc, hsetJ2 hidl, hsn, List.append_assoc]
    · have e1 : decide ((i : Int) < (l.length : Int)) = false := by rw [decide_eq_false_iff_not]; omega
      rw [List.take_of_length_le (by omega)]
      simp only [e1, hsetJ hidl, hsetJ2 hidl, wt2, sm, List.drop_zero, List.drop_succ_cons, ne_eq, not_false_eq_true, Option.map_some, Option.map_none, List.map_cons, List.map_nil, Bool.not_true, Bool.not_false, decide_true, decide_false, List.getElem?_cons_zero, List.getElem?_cons_succ, ↓aw1, ↓aw2, ↓aw17, aw3, aw4, aw5, aw6, aw7, aw8, aw9, aw10, aw11, aw12, aw13, aw14, aw15, aw16, aw19, Nat.reduceLeDiff, if_true, if_false, Nat.reduceEqDiff, Nat.reduceAdd, beq_self_eq_true, beq_true, beq_false, Bool.false_eq_true]
      exact Fin.junk rfl (by simp) (closed_set hcl rfl) rfl ⟨rfl, rfl⟩

/-! ### Text -/
def funT (f : Fun) : List UInt8 := lineT 0 [[102, 117, 110, 99, 32], f.name.data.toList, [40, 99, 32, 42, 67, 41, 32, 123]] ++ (stmtsT 1 f.body ++ lineT 0 [[125]])
def funsT (l : List Fun) : List UInt8 := l.flatMap funT
theorem funsT_snoc (l : List Fun) (i : Nat) (s : Fun) (h : l[i]? = some s) : funsT (l.take (i + 1)) = funsT (l.take i) ++ funT s := by
  obtain ⟨hi, he⟩ := List.getElem?_eq_some_iff.1 h
  rw [List.take_succ_eq_append_getElem hi, he]; simp [funsT]
theorem funsT_le (l : List Fun) (i : Nat) : (funsT (l.take i)).length ≤ (funsT l).length := by
  conv => rhs; rw [← List.take_append_drop i l, funsT, List.flatMap_append]
  simp [funsT]
theorem funsT_mem_le (l : List Fun) (i : Nat) (s : Fun) (h : l[i]? = some s) : (funsT (l.take i)).length + (funT s).length ≤ (funsT l).length := by
  have h1 := funsT_le l (i + 1)
  rw [funsT_snoc l i s h, List.length_append] at h1
  exact h1
def textT (l : List Fun) : List UInt8 := if okFs l then funsT l else []

theorem text_ev (l : List Fun) (hw : wF l < 2 ^ 30) (hlen : (funsT l).length ≤ 140737488355328) (h : List AObj) : EvR E0 11 [funsv l] h (str ⟨(textT l).toArray⟩) := by
  refine ev_of (fn := Tryd.f11) (hs := [(3, 0), (3, 1)]) Tryd.func11 c11 (by simp) fun hcl => ?_
  have hll := wF_len l
  simp only [ac11, ne_eq, not_false_eq_true, Option.map_some, Option.map_none, List.map_cons, List.map_nil, Bool.not_true, Bool.not_false, decide_true, decide_false, List.getElem?_cons_zero, List.getElem?_cons_succ, ↓aw1, ↓aw2, ↓aw17, aw3, aw4, aw5, aw6, aw7, aw8, aw9, aw10, aw11, aw12, aw13, aw14, aw15, aw16, aw19, Nat.reduceLeDiff, if_true, if_false, Nat.reduceEqDiff, Nat.reduceAdd, beq_self_eq_true, beq_true, beq_false, Bool.false_eq_true]
  refine EvF.ret (shaped_ev l (by omega) h) ?_
  cases hs : okFs l
  · simp only [ne_eq, not_false_eq_true, Option.map_some, Option.map_none, List.map_cons, List.map_nil, Bool.not_true, Bool.not_false, decide_true, decide_false, List.getElem?_cons_zero, List.getElem?_cons_succ, ↓aw1, ↓aw2, ↓aw17, aw3, aw4, aw5, aw6, aw7, aw8, aw9, aw10, aw11, aw12, aw13, aw14, aw15, aw16, aw19, Nat.reduceLeDiff, if_true, if_false, Nat.reduceEqDiff, Nat.reduceAdd, beq_self_eq_true, beq_true, beq_false, Bool.false_eq_true]
    exact Fin.same0 hcl rfl ⟨by simp [textT, hs], rfl⟩
  · simp only [aw18, List.length_map, ne_eq, not_false_eq_true, Option.map_some, Option.map_none, List.map_cons, List.map_nil, Bool.not_true, Bool.not_false, decide_true, decide_false, List.getElem?_cons_zero, List.getElem?_cons_succ, ↓aw1, ↓aw2, ↓aw17, aw3, aw4, aw5, aw6, aw7, aw8, aw9, aw10, aw11, aw12, aw13, aw14, aw15, aw16, aw19, Nat.reduceLeDiff, if_true, if_false, Nat.reduceEqDiff, Nat.reduceAdd, beq_self_eq_true, beq_true, beq_false, Bool.false_eq_true]
    refine LoopF.by (α := Nat × List AObj) (fun x => ⟨[(3, .ref h.length 0), (11, funsv l), (12, i64 l.length), (13, i64 x.1)], h ++ wr (funsT (l.take x.1)) 0 :: x.2⟩) (fun x => l.length - x.1)
      (fun x => x.1 ≤ l.length) (0, []) (Nat.zero_le _) (weak_of (by simp [funsT]) (by simp [look])) ?_
    rintro ⟨i, J⟩ h1
    simp only at h1
    by_cases hi : i < l.length
    · obtain ⟨s, hs⟩ : ∃ s, l[i]? = some s := ⟨_, List.getElem?_eq_getElem hi⟩
      have e1 : decide ((i : Int) < (l.length : Int)) = true := by rw [decide_eq_true_eq]; omega
      have w3 : IntKind.i64.wrap ((i : Int) + 1) = ((i + 1 : Nat) : Int) := by rw [wrap_i64] <;> omega
      have hmem := List.mem_of_getElem? hs
      have hwm := wF_mem hmem
      have hsn := funsT_snoc l i s hs
      have hle := funsT_mem_le l i s hs
      have hlb : ∀ (o : List UInt8) (J : List AObj), (h ++ wr o 0 :: J)[h.length]? = some (wr o 0) := fun o J => get0 h _ J
      have hls : ∀ (o o' : List UInt8) (J : List AObj), (h ++ wr o 0 :: J).set h.length (wr o' 0) = h ++ wr o' 0 :: J := fun o o' J => by
        rw [List.set_append_right _ _ (Nat.le_refl _)]; simp
      have happ : ∀ (o : List UInt8) (J : List AObj) (x : AObj), (h ++ wr o 0 :: J) ++ [x] = h ++ wr o 0 :: (J ++ [x]) := fun o J x => by simp
      rw [funT, List.length_append, List.length_append, lineT_len, lineT_len] at hle
      simp only [List.flatten_cons, List.flatten_nil, List.length_append, List.length_cons, List.length_nil] at hle
      simp only [e1, ne_eq, not_false_eq_true, Option.map_some, Option.map_none, List.map_cons, List.map_nil, Bool.not_true, Bool.not_false, decide_true, decide_false, List.getElem?_cons_zero, List.getElem?_cons_succ, ↓aw1, ↓aw2, ↓aw17, aw3, aw4, aw5, aw6, aw7, aw8, aw9, aw10, aw11, aw12, aw13, aw14, aw15, aw16, aw19, Nat.reduceLeDiff, if_true, if_false, Nat.reduceEqDiff, Nat.reduceAdd, beq_self_eq_true, beq_true, beq_false, Bool.false_eq_true]
      refine Need.mk ⟨by omega, by first | omega | (simp; omega)⟩ (Elem.recs (map_get funv l i s hs) ⟨rfl, rfl⟩ ?_)
      simp only [funv, getJ, setJ, List.take_succ_cons, List.take_zero, List.drop_zero, List.drop_succ_cons, ne_eq, not_false_eq_true, Option.map_some, Option.map_none, List.map_cons, List.map_nil, Bool.not_true, Bool.not_false, decide_true, decide_false, List.getElem?_cons_zero, List.getElem?_cons_succ, ↓aw1, ↓aw2, ↓aw17, aw3, aw4, aw5, aw6, aw7, aw8, aw9, aw10, aw11, aw12, aw13, aw14, aw15, aw16, aw19, Nat.reduceLeDiff, if_true, if_false, Nat.reduceEqDiff, Nat.reduceAdd, beq_self_eq_true, beq_true, beq_false, Bool.false_eq_true]
      refine Need.mk ⟨rfl, by decide, by decide, fun p hp => by
        simp only [List.mem_cons, List.not_mem_nil, or_false] at hp
        rcases hp with rfl | rfl | rfl <;> exact ⟨rfl, rfl, rfl⟩⟩ ?_
      simp only [happ, ne_eq, not_false_eq_true, Option.map_some, Option.map_none, List.map_cons, List.map_nil, Bool.not_true, Bool.not_false, decide_true, decide_false, List.getElem?_cons_zero, List.getElem?_cons_succ, ↓aw1, ↓aw2, ↓aw17, aw3, aw4, aw5, aw6, aw7, aw8, aw9, aw10, aw11, aw12, aw13, aw14, aw15, aw16, aw19, Nat.reduceLeDiff, if_true, if_false, Nat.reduceEqDiff, Nat.reduceAdd, beq_self_eq_true, beq_true, beq_false, Bool.false_eq_true]
      refine EvF.use (line_ev [[102, 117, 110, 99, 32], s.name.data.toList, [40, 99, 32, 42, 67, 41, 32, 123]] (hlb _ _) (by simp) (by simp only [List.flatten_cons, List.flatten_nil, List.length_append, List.length_cons, List.length_nil]; omega)) ?_
      rintro r h' ⟨rfl, rfl⟩
      have hg1 : ∀ (o o' : List UInt8) (J : List AObj) (x : AObj), (h ++ wr o' 0 :: (J ++ [x]))[(h ++ wr o 0 :: J).length]? = some x := fun o o' J x => by
        rw [List.getElem?_append_right (by simp)]; simp
      simp only [hls, hg1, List.drop_zero, List.drop_succ_cons, ne_eq, not_false_eq_true, Option.map_some, Option.map_none, List.map_cons, List.map_nil, Bool.not_true, Bool.not_false, decide_true, decide_false, List.getElem?_cons_zero, List.getElem?_cons_succ, ↓aw1, ↓aw2, ↓aw17, aw3, aw4, aw5, aw6, aw7, aw8, aw9, aw10, aw11, aw12, aw13, aw14, aw15, aw16, aw19, Nat.reduceLeDiff, if_true, if_false, Nat.reduceEqDiff, Nat.reduceAdd, beq_self_eq_true, beq_true, beq_false, Bool.false_eq_true]
      refine EvF.use (below_ev _ s.body (Nat.le_refl _) (by omega) _ h.length _ 0 (hlb _ _) (by simp only [Nat.zero_add, List.flatten_cons, List.flatten_nil, List.length_append, List.length_replicate, List.length_cons, List.length_nil]; omega) (by have := szL_wL s.body; omega)) ?_
      rintro r h' ⟨rfl, rfl⟩
      simp only [hls, Nat.zero_add, ne_eq, not_false_eq_true, Option.map_some, Option.map_none, List.map_cons, List.map_nil, Bool.not_true, Bool.not_false, decide_true, decide_false, List.getElem?_cons_zero, List.getElem?_cons_succ, ↓aw1, ↓aw2, ↓aw17, aw3, aw4, aw5, aw6, aw7, aw8, aw9, aw10, aw11, aw12, aw13, aw14, aw15, aw16, aw19, Nat.reduceLeDiff, if_true, if_false, Nat.reduceEqDiff, Nat.reduceAdd, beq_self_eq_true, beq_true, beq_false, Bool.false_eq_true]
      refine Need.mk ⟨rfl, by decide, by decide, fun p hp => by simp only [List.mem_singleton] at hp; subst hp; exact ⟨rfl, rfl, rfl⟩⟩ ?_
      simp only [ne_eq, not_false_eq_true, Option.map_some, Option.map_none, List.map_cons, List.map_nil, Bool.not_true, Bool.not_false, decide_true, decide_false, List.getElem?_cons_zero, List.getElem?_cons_succ, ↓aw1, ↓aw2, ↓aw17, aw3, aw4, aw5, aw6, aw7, aw8, aw9, aw10, aw11, aw12, aw13, aw14, aw15, aw16, aw19, Nat.reduceLeDiff, if_true, if_false, Nat.reduceEqDiff, Nat.reduceAdd, beq_self_eq_true, beq_true, beq_false, Bool.false_eq_true]
      refine EvF.use (line_ev [[125]] (hlb _ _) (by simp) (by simp only [List.flatten_cons, List.flatten_nil, List.length_append, List.length_replicate, List.length_cons, List.length_nil]; omega)) ?_
      rintro r h' ⟨rfl, rfl⟩
      simp only [hls, w3, ne_eq, not_false_eq_true, Option.map_some, Option.map_none, List.map_cons, List.map_nil, Bool.not_true, Bool.not_false, decide_true, decide_false, List.getElem?_cons_zero, List.getElem?_cons_succ, ↓aw1, ↓aw2, ↓aw17, aw3, aw4, aw5, aw6, aw7, aw8, aw9, aw10, aw11, aw12, aw13, aw14, aw15, aw16, aw19, Nat.reduceLeDiff, if_true, if_false, Nat.reduceEqDiff, Nat.reduceAdd, beq_self_eq_true, beq_true, beq_false, Bool.false_eq_true]
      refine ⟨(i + 1, J ++ [.cells [str s.name, bodyv s.body]]), by simp only; omega, by simp only; omega, weak_of ?_ (by simp [look])⟩
      rw [hsn]
      simp only [funT, lineT, List.append_assoc]
    · have e1 : decide ((i : Int) < (l.length : Int)) = false := by rw [decide_eq_false_iff_not]; omega
      rw [List.take_of_length_le (by omega)]
      simp only [e1, get0, List.drop_zero, List.drop_succ_cons, ne_eq, not_false_eq_true, Option.map_some, Option.map_none, List.map_cons, List.map_nil, Bool.not_true, Bool.not_false, decide_true, decide_false, List.getElem?_cons_zero, List.getElem?_cons_succ, ↓aw1, ↓aw2, ↓aw17, aw3, aw4, aw5, aw6, aw7, aw8, aw9, aw10, aw11, aw12, aw13, aw14, aw15, aw16, aw19, Nat.reduceLeDiff, if_true, if_false, Nat.reduceEqDiff, Nat.reduceAdd, beq_self_eq_true, beq_true, beq_false, Bool.false_eq_true]
      refine EvF.use (string_ev (rest := [i64 (0 : Nat)]) (e := 48) (l := funsT l) (get0 h _ J)) ?_
      rintro r h' ⟨rfl, rfl⟩
      have hlf : ∀ (X Y : AObj) (J : List AObj), (h ++ X :: J).set h.length Y = h ++ Y :: J := fun X Y J => by
        rw [List.set_append_right _ _ (Nat.le_refl _)]; simp
      simp only [hlf, ne_eq, not_false_eq_true, Option.map_some, Option.map_none, List.map_cons, List.map_nil, Bool.not_true, Bool.not_false, decide_true, decide_false, List.getElem?_cons_zero, List.getElem?_cons_succ, ↓aw1, ↓aw2, ↓aw17, aw3, aw4, aw5, aw6, aw7, aw8, aw9, aw10, aw11, aw12, aw13, aw14, aw15, aw16, aw19, Nat.reduceLeDiff, if_true, if_false, Nat.reduceEqDiff, Nat.reduceAdd, beq_self_eq_true, beq_true, beq_false, Bool.false_eq_true]
      exact Fin.same hcl rfl ⟨by simp only [textT, hs, if_true], rfl⟩
end Go.Abs.Fr

namespace Go.Abs.Fr
open Go Go.Abs Go.Proofs
set_option linter.unusedSimpArgs false
set_option maxRecDepth 100000

theorem szl (l : List UInt8) : (⟨l.toArray⟩ : ByteArray).size = l.length := rfl
theorem rep_snoc (t : Nat) : List.replicate t (9 : UInt8) ++ [9] = List.replicate (t + 1) 9 := List.replicate_succ'.symm

/-- What both writers agree about. -/
def clear (s : Stmt) : Prop := (∀ a, a ∈ s.args → a.text = false → a.n ≠ -9223372036854775808) ∧
  (decide (s.op = 1) = true ∨ decide (s.op = 2) = true ∨ decide (s.op = 3) = true ∨ (decide (s.op = 4) = true ∧ s.els.length = 0))

/-- What the statements' text is, the document's. -/
def Lines27 (l : List Stmt) : Prop := ∀ (t : Nat) (h : List AObj), (stmtsT t l).length ≤ 140737488355328 → t + 2 * szL l < 2 ^ 40 → EvR E0 27 [bodyv l, str ⟨(List.replicate t 9).toArray⟩] h (str ⟨(stmtsT t l).toArray⟩)

set_option maxHeartbeats 4000000 in
theorem lines_step (l : List Stmt) (hw : wL l < 2 ^ 30) (hl : ∀ s, s ∈ l → clear s ∧ Lines27 s.thn ∧ Lines27 s.els) : Lines27 l := by
  intro t h hb ht
  refine ev_of (fn := Tryd.f27) (hs := []) Tryd.func27 c27 (by simp) fun hcl => ?_
  have hlen := wL_len l
  simp only [ac27, List.length_map, ne_eq, not_false_eq_true, Option.map_some, Option.map_none, List.map_cons, List.map_nil, Bool.not_true, Bool.not_false, decide_true, decide_false, List.getElem?_cons_zero, List.getElem?_cons_succ, ↓aw1, ↓aw2, ↓aw17, aw3, aw4, aw5, aw6, aw7, aw8, aw9, aw10, aw11, aw12, aw13, aw14, aw15, aw16, aw19, Nat.reduceLeDiff, if_true, if_false, Nat.reduceEqDiff, Nat.reduceAdd, beq_self_eq_true, beq_true, beq_false, Bool.false_eq_true]
  refine LoopF.by (α := Nat × List AObj) (fun x => ⟨[(0, bodyv l), (1, str ⟨(List.replicate t 9).toArray⟩), (5, str ⟨(stmtsT t (l.take x.1)).toArray⟩), (6, i64 x.1)], h ++ x.2⟩) (fun x => l.length - x.1)
    (fun x => x.1 ≤ l.length) (0, []) (Nat.zero_le _) (weak_of (by simp) (by simp [look, stmtsT])) ?_
  rintro ⟨i, J⟩ h1
  simp only at h1
  have hle := stmtsT_le t l i
  by_cases hi : i < l.length
  · obtain ⟨s, hs⟩ : ∃ s, l[i]? = some s := ⟨_, List.getElem?_eq_getElem hi⟩
    have e1 : decide ((i : Int) < (l.length : Int)) = true := by rw [decide_eq_true_eq]; omega
    have w3 : IntKind.i64.wrap ((i : Int) + 1) = ((i + 1 : Nat) : Int) := by rw [wrap_i64] <;> omega
    have hm := List.mem_of_getElem? hs
    have hmem := wL_mem hm
    have hszm := szL_mem hm
    have hszs := szS_eq s
    have hws := wS_eq s
    have hsn := stmtsT_snoc t l i s hs
    have hle2 := stmtsT_le t l (i + 1)
    rw [hsn, List.length_append] at hle2
    obtain ⟨⟨ha, hop⟩, hT, hE⟩ := hl s hm
    have hlist := fun h => list_ev s.args (by omega) ha h
    have hal := argsT_len s.args
    have hcT := stmtT_eq t s
    generalize hX : stmtT t s = X at hle2 hsn hcT
    obtain ⟨nm, hnm⟩ : ∃ nm : List UInt8, s.name = ⟨nm.toArray⟩ := ⟨s.name.data.toList, rfl⟩
    have hns : nm.length = s.name.size := by rw [hnm, szl]
    have hcall : callT s = [99, 46] ++ nm ++ [40] ++ argsT s.args ++ [41] := by unfold callT; rw [hnm]; simp
    generalize hO : stmtsT t (l.take i) = O at hle hle2 hsn
    simp only [e1, List.length_map, hO, ne_eq, not_false_eq_true, Option.map_some, Option.map_none, List.map_cons, List.map_nil, Bool.not_true, Bool.not_false, decide_true, decide_false, List.getElem?_cons_zero, List.getElem?_cons_succ, ↓aw1, ↓aw2, ↓aw17, aw3, aw4, aw5, aw6, aw7, aw8, aw9, aw10, aw11, aw12, aw13, aw14, aw15, aw16, aw19, Nat.reduceLeDiff, if_true, if_false, Nat.reduceEqDiff, Nat.reduceAdd, beq_self_eq_true, beq_true, beq_false, Bool.false_eq_true]
    refine Need.mk ⟨by omega, by first | omega | (simp; omega)⟩ (Elem.recs (map_get stmtv l i s hs) (by rw [stmtv_eq]; exact ⟨rfl, rfl⟩) ?_)
    simp only [stmtv_eq, getJ, setJ, hnm, List.take_succ_cons, List.take_zero, List.drop_zero, List.drop_succ_cons, ne_eq, not_false_eq_true, Option.map_some, Option.map_none, List.map_cons, List.map_nil, Bool.not_true, Bool.not_false, decide_true, decide_false, List.getElem?_cons_zero, List.getElem?_cons_succ, ↓aw1, ↓aw2, ↓aw17, aw3, aw4, aw5, aw6, aw7, aw8, aw9, aw10, aw11, aw12, aw13, aw14, aw15, aw16, aw19, Nat.reduceLeDiff, if_true, if_false, Nat.reduceEqDiff, Nat.reduceAdd, beq_self_eq_true, beq_true, beq_false, Bool.false_eq_true]
    repeat (refine Need.mk (by simp only [szl, List.length_append, List.length_cons, List.length_nil, List.length_replicate]; omega) ?_; simp only [stmtv_eq, getJ, setJ, ba_append, rep_snoc, List.take_succ_cons, List.take_zero, List.drop_zero, List.drop_succ_cons, ne_eq, not_false_eq_true, Option.map_some, Option.map_none, List.map_cons, List.map_nil, Bool.not_true, Bool.not_false, decide_true, decide_false, List.getElem?_cons_zero, List.getElem?_cons_succ, ↓aw1, ↓aw2, ↓aw17, aw3, aw4, aw5, aw6, aw7, aw8, aw9, aw10, aw11, aw12, aw13, aw14, aw15, aw16, aw19, Nat.reduceLeDiff, if_true, if_false, Nat.reduceEqDiff, Nat.reduceAdd, beq_self_eq_true, beq_true, beq_false, Bool.false_eq_true])
    refine EvRF.ret (hlist _) ?_
    simp only [stmtv_eq, getJ, setJ, ba_append, List.take_succ_cons, List.take_zero, List.drop_zero, List.drop_succ_cons, ne_eq, not_false_eq_true, Option.map_some, Option.map_none, List.map_cons, List.map_nil, Bool.not_true, Bool.not_false, decide_true, decide_false, List.getElem?_cons_zero, List.getElem?_cons_succ, ↓aw1, ↓aw2, ↓aw17, aw3, aw4, aw5, aw6, aw7, aw8, aw9, aw10, aw11, aw12, aw13, aw14, aw15, aw16, aw19, Nat.reduceLeDiff, if_true, if_false, Nat.reduceEqDiff, Nat.reduceAdd, beq_self_eq_true, beq_true, beq_false, Bool.false_eq_true]
    repeat (refine Need.mk (by simp only [szl, List.length_append, List.length_cons, List.length_nil, List.length_replicate]; omega) ?_; simp only [stmtv_eq, getJ, setJ, ba_append, ← hcall, rep_snoc, List.take_succ_cons, List.take_zero, List.drop_zero, List.drop_succ_cons, ne_eq, not_false_eq_true, Option.map_some, Option.map_none, List.map_cons, List.map_nil, Bool.not_true, Bool.not_false, decide_true, decide_false, List.getElem?_cons_zero, List.getElem?_cons_succ, ↓aw1, ↓aw2, ↓aw17, aw3, aw4, aw5, aw6, aw7, aw8, aw9, aw10, aw11, aw12, aw13, aw14, aw15, aw16, aw19, Nat.reduceLeDiff, if_true, if_false, Nat.reduceEqDiff, Nat.reduceAdd, beq_self_eq_true, beq_true, beq_false, Bool.false_eq_true])
    have hcl2 : (callT s).length ≤ 2 ^ 40 := by rw [hcall]; simp only [List.length_append, List.length_cons, List.length_nil]; omega
    have last : ∀ (T : List UInt8) (X' : List UInt8), X' = X → (⟨(O ++ X').toArray⟩ : ByteArray) = ⟨(stmtsT t (l.take (i + 1))).toArray⟩ := fun _ _ h => by rw [h, hsn]
    cases k1 : decide (s.op = 1)
    · cases k2 : decide (s.op = 2)
      · have hh : headT s = (if decide (s.op = 4) then [[102, 111, 114, 32], callT s, [32, 123]] else [[105, 102, 32], callT s, [32, 123]]) := by simp only [headT, k1, k2, Bool.false_eq_true, if_false]
        simp only [k1, k2, Bool.or_self, Bool.false_eq_true, if_false, hh] at hcT
        have hXl := congrArg List.length hcT
        simp only [List.length_append] at hXl
        cases k3 : decide (s.op = 3)
        · have k4 : decide (s.op = 4) = true := by
            rcases hop with h | h | h | h
            · rw [k1] at h; cases h
            · rw [k2] at h; cases h
            · rw [k3] at h; cases h
            · exact h.1
          have e4 : s.els.length = 0 := by
            rcases hop with h | h | h | h
            · rw [k1] at h; cases h
            · rw [k2] at h; cases h
            · rw [k3] at h; cases h
            · exact h.2
          simp only [k4, e4, if_true, List.nil_append] at hcT
          simp only [k1, k2, k3, last_obj, stmtv_eq, getJ, setJ, ba_append, List.take_succ_cons, List.take_zero, List.drop_zero, List.drop_succ_cons, ne_eq, not_false_eq_true, Option.map_some, Option.map_none, List.map_cons, List.map_nil, Bool.not_true, Bool.not_false, decide_true, decide_false, List.getElem?_cons_zero, List.getElem?_cons_succ, ↓aw1, ↓aw2, ↓aw17, aw3, aw4, aw5, aw6, aw7, aw8, aw9, aw10, aw11, aw12, aw13, aw14, aw15, aw16, aw19, Nat.reduceLeDiff, if_true, if_false, Nat.reduceEqDiff, Nat.reduceAdd, beq_self_eq_true, beq_true, beq_false, Bool.false_eq_true]
          repeat (refine Need.mk (by simp only [szl, List.length_append, List.length_cons, List.length_nil, List.length_replicate]; omega) ?_; simp only [stmtv_eq, getJ, setJ, ba_append, rep_snoc, List.take_succ_cons, List.take_zero, List.drop_zero, List.drop_succ_cons, ne_eq, not_false_eq_true, Option.map_some, Option.map_none, List.map_cons, List.map_nil, Bool.not_true, Bool.not_false, decide_true, decide_false, List.getElem?_cons_zero, List.getElem?_cons_succ, ↓aw1, ↓aw2, ↓aw17, aw3, aw4, aw5, aw6, aw7, aw8, aw9, aw10, aw11, aw12, aw13, aw14, aw15, aw16, aw19, Nat.reduceLeDiff, if_true, if_false, Nat.reduceEqDiff, Nat.reduceAdd, beq_self_eq_true, beq_true, beq_false, Bool.false_eq_true])
          refine EvF.ret (hT (t + 1) _ (by omega) (by omega)) ?_
          simp only [stmtv_eq, getJ, setJ, ba_append, List.take_succ_cons, List.take_zero, List.drop_zero, List.drop_succ_cons, ne_eq, not_false_eq_true, Option.map_some, Option.map_none, List.map_cons, List.map_nil, Bool.not_true, Bool.not_false, decide_true, decide_false, List.getElem?_cons_zero, List.getElem?_cons_succ, ↓aw1, ↓aw2, ↓aw17, aw3, aw4, aw5, aw6, aw7, aw8, aw9, aw10, aw11, aw12, aw13, aw14, aw15, aw16, aw19, Nat.reduceLeDiff, if_true, if_false, Nat.reduceEqDiff, Nat.reduceAdd, beq_self_eq_true, beq_true, beq_false, Bool.false_eq_true]
          repeat (refine Need.mk (by simp only [szl, List.length_append, List.length_cons, List.length_nil, List.length_replicate]; omega) ?_; simp only [stmtv_eq, getJ, setJ, ba_append, rep_snoc, List.take_succ_cons, List.take_zero, List.drop_zero, List.drop_succ_cons, ne_eq, not_false_eq_true, Option.map_some, Option.map_none, List.map_cons, List.map_nil, Bool.not_true, Bool.not_false, decide_true, decide_false, List.getElem?_cons_zero, List.getElem?_cons_succ, ↓aw1, ↓aw2, ↓aw17, aw3, aw4, aw5, aw6, aw7, aw8, aw9, aw10, aw11, aw12, aw13, aw14, aw15, aw16, aw19, Nat.reduceLeDiff, if_true, if_false, Nat.reduceEqDiff, Nat.reduceAdd, beq_self_eq_true, beq_true, beq_false, Bool.false_eq_true])
          simp only [w3, ne_eq, not_false_eq_true, Option.map_some, Option.map_none, List.map_cons, List.map_nil, Bool.not_true, Bool.not_false, decide_true, decide_false, List.getElem?_cons_zero, List.getElem?_cons_succ, ↓aw1, ↓aw2, ↓aw17, aw3, aw4, aw5, aw6, aw7, aw8, aw9, aw10, aw11, aw12, aw13, aw14, aw15, aw16, aw19, Nat.reduceLeDiff, if_true, if_false, Nat.reduceEqDiff, Nat.reduceAdd, beq_self_eq_true, beq_true, beq_false, Bool.false_eq_true]; exact ⟨(i + 1, J ++ [.cells [i64 s.op, str ⟨nm.toArray⟩, argsv s.args, bodyv s.thn, bodyv s.els]]), by simp only; omega, by simp only; omega, weak_of (by simp) (by simp [look, hsn, hcT, lineT])⟩
        · have k4 : decide (s.op = 4) = false := by
            rw [decide_eq_true_eq] at k3; rw [decide_eq_false_iff_not]; omega
          simp only [k4, Bool.false_eq_true, if_false] at hcT
          simp only [k1, k2, k3, last_obj, stmtv_eq, getJ, setJ, ba_append, List.take_succ_cons, List.take_zero, List.drop_zero, List.drop_succ_cons, ne_eq, not_false_eq_true, Option.map_some, Option.map_none, List.map_cons, List.map_nil, Bool.not_true, Bool.not_false, decide_true, decide_false, List.getElem?_cons_zero, List.getElem?_cons_succ, ↓aw1, ↓aw2, ↓aw17, aw3, aw4, aw5, aw6, aw7, aw8, aw9, aw10, aw11, aw12, aw13, aw14, aw15, aw16, aw19, Nat.reduceLeDiff, if_true, if_false, Nat.reduceEqDiff, Nat.reduceAdd, beq_self_eq_true, beq_true, beq_false, Bool.false_eq_true]
          repeat (refine Need.mk (by simp only [szl, List.length_append, List.length_cons, List.length_nil, List.length_replicate]; omega) ?_; simp only [stmtv_eq, getJ, setJ, ba_append, rep_snoc, List.take_succ_cons, List.take_zero, List.drop_zero, List.drop_succ_cons, ne_eq, not_false_eq_true, Option.map_some, Option.map_none, List.map_cons, List.map_nil, Bool.not_true, Bool.not_false, decide_true, decide_false, List.getElem?_cons_zero, List.getElem?_cons_succ, ↓aw1, ↓aw2, ↓aw17, aw3, aw4, aw5, aw6, aw7, aw8, aw9, aw10, aw11, aw12, aw13, aw14, aw15, aw16, aw19, Nat.reduceLeDiff, if_true, if_false, Nat.reduceEqDiff, Nat.reduceAdd, beq_self_eq_true, beq_true, beq_false, Bool.false_eq_true])
          refine EvF.ret (hT (t + 1) _ (by omega) (by omega)) ?_
          simp only [stmtv_eq, getJ, setJ, ba_append, List.take_succ_cons, List.take_zero, List.drop_zero, List.drop_succ_cons, ne_eq, not_false_eq_true, Option.map_some, Option.map_none, List.map_cons, List.map_nil, Bool.not_true, Bool.not_false, decide_true, decide_false, List.getElem?_cons_zero, List.getElem?_cons_succ, ↓aw1, ↓aw2, ↓aw17, aw3, aw4, aw5, aw6, aw7, aw8, aw9, aw10, aw11, aw12, aw13, aw14, aw15, aw16, aw19, Nat.reduceLeDiff, if_true, if_false, Nat.reduceEqDiff, Nat.reduceAdd, beq_self_eq_true, beq_true, beq_false, Bool.false_eq_true]
          repeat (refine Need.mk (by simp only [szl, List.length_append, List.length_cons, List.length_nil, List.length_replicate]; omega) ?_; simp only [stmtv_eq, getJ, setJ, ba_append, rep_snoc, List.take_succ_cons, List.take_zero, List.drop_zero, List.drop_succ_cons, ne_eq, not_false_eq_true, Option.map_some, Option.map_none, List.map_cons, List.map_nil, Bool.not_true, Bool.not_false, decide_true, decide_false, List.getElem?_cons_zero, List.getElem?_cons_succ, ↓aw1, ↓aw2, ↓aw17, aw3, aw4, aw5, aw6, aw7, aw8, aw9, aw10, aw11, aw12, aw13, aw14, aw15, aw16, aw19, Nat.reduceLeDiff, if_true, if_false, Nat.reduceEqDiff, Nat.reduceAdd, beq_self_eq_true, beq_true, beq_false, Bool.false_eq_true])
          cases e0 : decide (s.els.length = 0)
          · have ez : ¬ s.els.length = 0 := by rw [decide_eq_false_iff_not] at e0; exact e0
            have eb : decide ((0 : Int) < (s.els.length : Int)) = true := by rw [decide_eq_true_eq]; omega
            simp only [if_neg ez, List.length_append] at hXl
            simp only [if_neg ez] at hcT
            simp only [eb, List.length_map, stmtv_eq, getJ, setJ, ba_append, List.take_succ_cons, List.take_zero, List.drop_zero, List.drop_succ_cons, ne_eq, not_false_eq_true, Option.map_some, Option.map_none, List.map_cons, List.map_nil, Bool.not_true, Bool.not_false, decide_true, decide_false, List.getElem?_cons_zero, List.getElem?_cons_succ, ↓aw1, ↓aw2, ↓aw17, aw3, aw4, aw5, aw6, aw7, aw8, aw9, aw10, aw11, aw12, aw13, aw14, aw15, aw16, aw19, Nat.reduceLeDiff, if_true, if_false, Nat.reduceEqDiff, Nat.reduceAdd, beq_self_eq_true, beq_true, beq_false, Bool.false_eq_true]
            repeat (refine Need.mk (by simp only [szl, List.length_append, List.length_cons, List.length_nil, List.length_replicate]; omega) ?_; simp only [stmtv_eq, getJ, setJ, ba_append, rep_snoc, List.take_succ_cons, List.take_zero, List.drop_zero, List.drop_succ_cons, ne_eq, not_false_eq_true, Option.map_some, Option.map_none, List.map_cons, List.map_nil, Bool.not_true, Bool.not_false, decide_true, decide_false, List.getElem?_cons_zero, List.getElem?_cons_succ, ↓aw1, ↓aw2, ↓aw17, aw3, aw4, aw5, aw6, aw7, aw8, aw9, aw10, aw11, aw12, aw13, aw14, aw15, aw16, aw19, Nat.reduceLeDiff, if_true, if_false, Nat.reduceEqDiff, Nat.reduceAdd, beq_self_eq_true, beq_true, beq_false, Bool.false_eq_true])
            refine EvF.ret (hE (t + 1) _ (by omega) (by omega)) ?_
            simp only [stmtv_eq, getJ, setJ, ba_append, List.take_succ_cons, List.take_zero, List.drop_zero, List.drop_succ_cons, ne_eq, not_false_eq_true, Option.map_some, Option.map_none, List.map_cons, List.map_nil, Bool.not_true, Bool.not_false, decide_true, decide_false, List.getElem?_cons_zero, List.getElem?_cons_succ, ↓aw1, ↓aw2, ↓aw17, aw3, aw4, aw5, aw6, aw7, aw8, aw9, aw10, aw11, aw12, aw13, aw14, aw15, aw16, aw19, Nat.reduceLeDiff, if_true, if_false, Nat.reduceEqDiff, Nat.reduceAdd, beq_self_eq_true, beq_true, beq_false, Bool.false_eq_true]
            repeat (refine Need.mk (by simp only [szl, List.length_append, List.length_cons, List.length_nil, List.length_replicate]; omega) ?_; simp only [stmtv_eq, getJ, setJ, ba_append, rep_snoc, List.take_succ_cons, List.take_zero, List.drop_zero, List.drop_succ_cons, ne_eq, not_false_eq_true, Option.map_some, Option.map_none, List.map_cons, List.map_nil, Bool.not_true, Bool.not_false, decide_true, decide_false, List.getElem?_cons_zero, List.getElem?_cons_succ, ↓aw1, ↓aw2, ↓aw17, aw3, aw4, aw5, aw6, aw7, aw8, aw9, aw10, aw11, aw12, aw13, aw14, aw15, aw16, aw19, Nat.reduceLeDiff, if_true, if_false, Nat.reduceEqDiff, Nat.reduceAdd, beq_self_eq_true, beq_true, beq_false, Bool.false_eq_true])
            simp only [w3, ne_eq, not_false_eq_true, Option.map_some, Option.map_none, List.map_cons, List.map_nil, Bool.not_true, Bool.not_false, decide_true, decide_false, List.getElem?_cons_zero, List.getElem?_cons_succ, ↓aw1, ↓aw2, ↓aw17, aw3, aw4, aw5, aw6, aw7, aw8, aw9, aw10, aw11, aw12, aw13, aw14, aw15, aw16, aw19, Nat.reduceLeDiff, if_true, if_false, Nat.reduceEqDiff, Nat.reduceAdd, beq_self_eq_true, beq_true, beq_false, Bool.false_eq_true]; exact ⟨(i + 1, J ++ [.cells [i64 s.op, str ⟨nm.toArray⟩, argsv s.args, bodyv s.thn, bodyv s.els]]), by simp only; omega, by simp only; omega, weak_of (by simp) (by simp [look, hsn, hcT, lineT])⟩
          · have ez : s.els.length = 0 := by rw [decide_eq_true_eq] at e0; exact e0
            have eb : decide ((0 : Int) < (s.els.length : Int)) = false := by rw [decide_eq_false_iff_not]; omega
            simp only [if_pos ez, List.nil_append] at hcT
            simp only [eb, List.length_map, stmtv_eq, getJ, setJ, ba_append, List.take_succ_cons, List.take_zero, List.drop_zero, List.drop_succ_cons, ne_eq, not_false_eq_true, Option.map_some, Option.map_none, List.map_cons, List.map_nil, Bool.not_true, Bool.not_false, decide_true, decide_false, List.getElem?_cons_zero, List.getElem?_cons_succ, ↓aw1, ↓aw2, ↓aw17, aw3, aw4, aw5, aw6, aw7, aw8, aw9, aw10, aw11, aw12, aw13, aw14, aw15, aw16, aw19, Nat.reduceLeDiff, if_true, if_false, Nat.reduceEqDiff, Nat.reduceAdd, beq_self_eq_true, beq_true, beq_false, Bool.false_eq_true]
            repeat (refine Need.mk (by simp only [szl, List.length_append, List.length_cons, List.length_nil, List.length_replicate]; omega) ?_; simp only [stmtv_eq, getJ, setJ, ba_append, rep_snoc, List.take_succ_cons, List.take_zero, List.drop_zero, List.drop_succ_cons, ne_eq, not_false_eq_true, Option.map_some, Option.map_none, List.map_cons, List.map_nil, Bool.not_true, Bool.not_false, decide_true, decide_false, List.getElem?_cons_zero, List.getElem?_cons_succ, ↓aw1, ↓aw2, ↓aw17, aw3, aw4, aw5, aw6, aw7, aw8, aw9, aw10, aw11, aw12, aw13, aw14, aw15, aw16, aw19, Nat.reduceLeDiff, if_true, if_false, Nat.reduceEqDiff, Nat.reduceAdd, beq_self_eq_true, beq_true, beq_false, Bool.false_eq_true])
            simp only [w3, ne_eq, not_false_eq_true, Option.map_some, Option.map_none, List.map_cons, List.map_nil, Bool.not_true, Bool.not_false, decide_true, decide_false, List.getElem?_cons_zero, List.getElem?_cons_succ, ↓aw1, ↓aw2, ↓aw17, aw3, aw4, aw5, aw6, aw7, aw8, aw9, aw10, aw11, aw12, aw13, aw14, aw15, aw16, aw19, Nat.reduceLeDiff, if_true, if_false, Nat.reduceEqDiff, Nat.reduceAdd, beq_self_eq_true, beq_true, beq_false, Bool.false_eq_true]; exact ⟨(i + 1, J ++ [.cells [i64 s.op, str ⟨nm.toArray⟩, argsv s.args, bodyv s.thn, bodyv s.els]]), by simp only; omega, by simp only; omega, weak_of (by simp) (by simp [look, hsn, hcT, lineT])⟩
      · have hh : headT s = [s.name.data.toList, [40, 99, 41]] := by simp only [headT, k1, k2, Bool.false_eq_true, if_false, if_true]
        simp only [k2, Bool.or_true, if_true, hh, hnm] at hcT
        simp only [k1, k2, last_obj, stmtv_eq, getJ, setJ, ba_append, List.take_succ_cons, List.take_zero, List.drop_zero, List.drop_succ_cons, ne_eq, not_false_eq_true, Option.map_some, Option.map_none, List.map_cons, List.map_nil, Bool.not_true, Bool.not_false, decide_true, decide_false, List.getElem?_cons_zero, List.getElem?_cons_succ, ↓aw1, ↓aw2, ↓aw17, aw3, aw4, aw5, aw6, aw7, aw8, aw9, aw10, aw11, aw12, aw13, aw14, aw15, aw16, aw19, Nat.reduceLeDiff, if_true, if_false, Nat.reduceEqDiff, Nat.reduceAdd, beq_self_eq_true, beq_true, beq_false, Bool.false_eq_true]
        repeat (refine Need.mk (by simp only [szl, List.length_append, List.length_cons, List.length_nil, List.length_replicate]; omega) ?_; simp only [stmtv_eq, getJ, setJ, ba_append, rep_snoc, List.take_succ_cons, List.take_zero, List.drop_zero, List.drop_succ_cons, ne_eq, not_false_eq_true, Option.map_some, Option.map_none, List.map_cons, List.map_nil, Bool.not_true, Bool.not_false, decide_true, decide_false, List.getElem?_cons_zero, List.getElem?_cons_succ, ↓aw1, ↓aw2, ↓aw17, aw3, aw4, aw5, aw6, aw7, aw8, aw9, aw10, aw11, aw12, aw13, aw14, aw15, aw16, aw19, Nat.reduceLeDiff, if_true, if_false, Nat.reduceEqDiff, Nat.reduceAdd, beq_self_eq_true, beq_true, beq_false, Bool.false_eq_true])
        simp only [w3, ne_eq, not_false_eq_true, Option.map_some, Option.map_none, List.map_cons, List.map_nil, Bool.not_true, Bool.not_false, decide_true, decide_false, List.getElem?_cons_zero, List.getElem?_cons_succ, ↓aw1, ↓aw2, ↓aw17, aw3, aw4, aw5, aw6, aw7, aw8, aw9, aw10, aw11, aw12, aw13, aw14, aw15, aw16, aw19, Nat.reduceLeDiff, if_true, if_false, Nat.reduceEqDiff, Nat.reduceAdd, beq_self_eq_true, beq_true, beq_false, Bool.false_eq_true]; exact ⟨(i + 1, J ++ [.cells [i64 s.op, str ⟨nm.toArray⟩, argsv s.args, bodyv s.thn, bodyv s.els]]), by simp only; omega, by simp only; omega, weak_of (by simp) (by simp [look, hsn, hcT, lineT])⟩
    · have hh : headT s = [callT s] := by simp only [headT, k1, if_true]
      simp only [k1, Bool.true_or, if_true, hh] at hcT
      simp only [k1, last_obj, stmtv_eq, getJ, setJ, ba_append, List.take_succ_cons, List.take_zero, List.drop_zero, List.drop_succ_cons, ne_eq, not_false_eq_true, Option.map_some, Option.map_none, List.map_cons, List.map_nil, Bool.not_true, Bool.not_false, decide_true, decide_false, List.getElem?_cons_zero, List.getElem?_cons_succ, ↓aw1, ↓aw2, ↓aw17, aw3, aw4, aw5, aw6, aw7, aw8, aw9, aw10, aw11, aw12, aw13, aw14, aw15, aw16, aw19, Nat.reduceLeDiff, if_true, if_false, Nat.reduceEqDiff, Nat.reduceAdd, beq_self_eq_true, beq_true, beq_false, Bool.false_eq_true]
      repeat (refine Need.mk (by simp only [szl, List.length_append, List.length_cons, List.length_nil, List.length_replicate]; omega) ?_; simp only [stmtv_eq, getJ, setJ, ba_append, rep_snoc, List.take_succ_cons, List.take_zero, List.drop_zero, List.drop_succ_cons, ne_eq, not_false_eq_true, Option.map_some, Option.map_none, List.map_cons, List.map_nil, Bool.not_true, Bool.not_false, decide_true, decide_false, List.getElem?_cons_zero, List.getElem?_cons_succ, ↓aw1, ↓aw2, ↓aw17, aw3, aw4, aw5, aw6, aw7, aw8, aw9, aw10, aw11, aw12, aw13, aw14, aw15, aw16, aw19, Nat.reduceLeDiff, if_true, if_false, Nat.reduceEqDiff, Nat.reduceAdd, beq_self_eq_true, beq_true, beq_false, Bool.false_eq_true])
      simp only [w3, ne_eq, not_false_eq_true, Option.map_some, Option.map_none, List.map_cons, List.map_nil, Bool.not_true, Bool.not_false, decide_true, decide_false, List.getElem?_cons_zero, List.getElem?_cons_succ, ↓aw1, ↓aw2, ↓aw17, aw3, aw4, aw5, aw6, aw7, aw8, aw9, aw10, aw11, aw12, aw13, aw14, aw15, aw16, aw19, Nat.reduceLeDiff, if_true, if_false, Nat.reduceEqDiff, Nat.reduceAdd, beq_self_eq_true, beq_true, beq_false, Bool.false_eq_true]; exact ⟨(i + 1, J ++ [.cells [i64 s.op, str ⟨nm.toArray⟩, argsv s.args, bodyv s.thn, bodyv s.els]]), by simp only; omega, by simp only; omega, weak_of (by simp) (by simp [look, hsn, hcT, lineT])⟩
  · have e1 : decide ((i : Int) < (l.length : Int)) = false := by rw [decide_eq_false_iff_not]; omega
    rw [List.take_of_length_le (by omega)]
    simp only [e1, List.length_map, ne_eq, not_false_eq_true, Option.map_some, Option.map_none, List.map_cons, List.map_nil, Bool.not_true, Bool.not_false, decide_true, decide_false, List.getElem?_cons_zero, List.getElem?_cons_succ, ↓aw1, ↓aw2, ↓aw17, aw3, aw4, aw5, aw6, aw7, aw8, aw9, aw10, aw11, aw12, aw13, aw14, aw15, aw16, aw19, Nat.reduceLeDiff, if_true, if_false, Nat.reduceEqDiff, Nat.reduceAdd, beq_self_eq_true, beq_true, beq_false, Bool.false_eq_true]
    exact Fin.same hcl rfl ⟨rfl, rfl⟩
end Go.Abs.Fr
