/- The document's text of a fragment: functions. -/
import Derived.Test.YtgbedffflggenaaDoorS18FrW
import Derived.Test.YtgbedffflggenaaDoorS18FrR
set_option linter.all false
namespace Go.Abs.Fr
open Go Go.Abs Go.Proofs
set_option linter.unusedSimpArgs false
set_option maxRecDepth 100000

theorem okArg_ne {a : Arg} (h : okArg a = true) (ht : a.text = false) : a.n ≠ -9223372036854775808 := by
  unfold okArg at h
  rw [ht] at h
  simp only [Bool.false_eq_true, if_false, Bool.and_eq_true, Bool.not_eq_true', decide_eq_false_iff_not] at h
  exact h.2

theorem okS_use {B : List Stmt → Bool} {s : Stmt} (h : okS B s = true) : clear s ∧ (s.thn = [] ∨ B s.thn = true) ∧ (s.els = [] ∨ B s.els = true) := by
  unfold okS at h
  by_cases k2 : s.op = 2
  · rw [if_pos (by simpa using k2)] at h
    simp only [Bool.and_eq_true, decide_eq_true_eq] at h
    obtain ⟨_, h⟩ := h
    have ha : s.args = [] := List.length_eq_zero_iff.1 (by omega)
    have ht : s.thn = [] := List.length_eq_zero_iff.1 (by omega)
    have he : s.els = [] := List.length_eq_zero_iff.1 (by omega)
    exact ⟨⟨(by rw [ha]; intro a h; cases h), .inr (.inl (by simpa using k2))⟩, .inl ht, .inl he⟩
  · rw [if_neg (by simpa using k2)] at h
    by_cases hm : (!isMe s.name || (decide (4096 < s.args.length) || s.args.any fun a => !okArg a)) = true
    · rw [if_pos hm] at h; cases h
    · rw [if_neg hm] at h
      simp only [Bool.or_eq_true, Bool.not_eq_true', not_or, List.any_eq_true, not_exists, not_and, Bool.not_eq_false] at hm
      have hargs : ∀ a, a ∈ s.args → a.text = false → a.n ≠ -9223372036854775808 := fun a ha => okArg_ne (hm.2.2 a ha)
      by_cases k1 : s.op = 1
      · rw [if_pos (by simpa using k1)] at h
        simp only [decide_eq_true_eq] at h
        exact ⟨⟨hargs, .inl (by simpa using k1)⟩, .inl (List.length_eq_zero_iff.1 (by omega)), .inl (List.length_eq_zero_iff.1 (by omega))⟩
      · rw [if_neg (by simpa using k1)] at h
        by_cases k4 : s.op = 4
        · rw [if_pos (by simpa using k4)] at h
          simp only [Bool.and_eq_true, decide_eq_true_eq] at h
          exact ⟨⟨hargs, .inr (.inr (.inr ⟨by simpa using k4, h.1⟩))⟩, .inr h.2, .inl (List.length_eq_zero_iff.1 h.1)⟩
        · rw [if_neg (by simpa using k4)] at h
          simp only [Bool.and_eq_true, decide_eq_true_eq] at h
          exact ⟨⟨hargs, .inr (.inr (.inl (by simpa using h.1)))⟩, .inr h.2.1, .inr h.2.2⟩

theorem okB_mem {r : Nat} {l : List Stmt} (h : okB (r + 1) l = true) {s : Stmt} (hs : s ∈ l) : okS (okB r) s = true := by
  simp only [okB, Bool.not_eq_true', List.any_eq_false, Bool.not_eq_true'] at h
  simpa using h s hs

theorem lines_nil : Lines27 [] := lines_step [] (by decide) (fun s hs => by cases hs)

theorem lines_ev : ∀ (r : Nat) (l : List Stmt), okB r l = true → wL l < 2 ^ 30 → Lines27 l := by
  intro r
  induction r with
  | zero =>
    intro l h _
    obtain rfl : l = [] := List.length_eq_zero_iff.1 (by simpa [okB] using h)
    exact lines_nil
  | succ r ih =>
    intro l h hw
    refine lines_step l hw fun s hs => ?_
    obtain ⟨h1, h2, h3⟩ := okS_use (okB_mem h hs)
    have hm := wL_mem hs
    have hws := wS_eq s
    refine ⟨h1, ?_, ?_⟩
    · rcases h2 with h2 | h2
      · rw [h2]; exact lines_nil
      · exact ih _ h2 (by omega)
    · rcases h3 with h3 | h3
      · rw [h3]; exact lines_nil
      · exact ih _ h3 (by omega)

theorem okF_mem {l : List Fun} (h : okFs l = true) {f : Fun} (hf : f ∈ l) : okB 40 f.body = true := by
  simp only [okFs, Bool.and_eq_true, Bool.not_eq_true', List.any_eq_false, Bool.not_eq_true'] at h
  have := h.2 f hf
  simp only [okF, Bool.not_eq_false, Bool.and_eq_true] at this
  exact this.2

theorem rtext_ev (l : List Fun) (hw : wF l < 2 ^ 30) (hlen : (funsT l).length ≤ 140737488355328) (h : List AObj) : EvR E0 12 [funsv l] h (str ⟨(textT l).toArray⟩) := by
  refine ev_of (fn := Tryd.f12) (hs := []) Tryd.func12 c12 (by simp) fun hcl => ?_
  have hll := wF_len l
  simp only [ac12, ne_eq, not_false_eq_true, Option.map_some, Option.map_none, List.map_cons, List.map_nil, Bool.not_true, Bool.not_false, decide_true, decide_false, List.getElem?_cons_zero, List.getElem?_cons_succ, ↓aw1, ↓aw2, ↓aw17, aw3, aw4, aw5, aw6, aw7, aw8, aw9, aw10, aw11, aw12, aw13, aw14, aw15, aw16, aw19, Nat.reduceLeDiff, if_true, if_false, Nat.reduceEqDiff, Nat.reduceAdd, beq_self_eq_true, beq_true, beq_false, Bool.false_eq_true]
  refine EvF.ret (rshaped_ev l (by omega) h) ?_
  cases hs : okFs l
  · simp only [ne_eq, not_false_eq_true, Option.map_some, Option.map_none, List.map_cons, List.map_nil, Bool.not_true, Bool.not_false, decide_true, decide_false, List.getElem?_cons_zero, List.getElem?_cons_succ, ↓aw1, ↓aw2, ↓aw17, aw3, aw4, aw5, aw6, aw7, aw8, aw9, aw10, aw11, aw12, aw13, aw14, aw15, aw16, aw19, Nat.reduceLeDiff, if_true, if_false, Nat.reduceEqDiff, Nat.reduceAdd, beq_self_eq_true, beq_true, beq_false, Bool.false_eq_true]
    exact Fin.same0 hcl rfl ⟨by simp [textT, hs], rfl⟩
  · simp only [List.length_map, ne_eq, not_false_eq_true, Option.map_some, Option.map_none, List.map_cons, List.map_nil, Bool.not_true, Bool.not_false, decide_true, decide_false, List.getElem?_cons_zero, List.getElem?_cons_succ, ↓aw1, ↓aw2, ↓aw17, aw3, aw4, aw5, aw6, aw7, aw8, aw9, aw10, aw11, aw12, aw13, aw14, aw15, aw16, aw19, Nat.reduceLeDiff, if_true, if_false, Nat.reduceEqDiff, Nat.reduceAdd, beq_self_eq_true, beq_true, beq_false, Bool.false_eq_true]
    refine LoopF.by (α := Nat) (fun x => ⟨[(0, funsv l), (3, str ⟨(funsT (l.take x)).toArray⟩), (4, i64 x)], h⟩) (fun x => l.length - x)
      (fun x => x ≤ l.length) 0 (Nat.zero_le _) (weak_of (by simp) (by simp [look, funsT])) ?_
    rintro i h1
    by_cases hi : i < l.length
    · obtain ⟨s, hsi⟩ : ∃ s, l[i]? = some s := ⟨_, List.getElem?_eq_getElem hi⟩
      have e1 : decide ((i : Int) < (l.length : Int)) = true := by rw [decide_eq_true_eq]; omega
      have w3 : IntKind.i64.wrap ((i : Int) + 1) = ((i + 1 : Nat) : Int) := by rw [wrap_i64] <;> omega
      have hmem := List.mem_of_getElem? hsi
      have hwm := wF_mem hmem
      have hsn := funsT_snoc l i s hsi
      have hle := funsT_mem_le l i s hsi
      have hli := lines_ev 40 s.body (okF_mem hs hmem) (by omega) 1 h
      have hsz := szL_wL s.body
      rw [funT, List.length_append, List.length_append, lineT_len, lineT_len] at hle
      simp only [List.flatten_cons, List.flatten_nil, List.length_append, List.length_cons, List.length_nil] at hle
      obtain ⟨nm, hnm⟩ : ∃ nm : List UInt8, s.name = ⟨nm.toArray⟩ := ⟨s.name.data.toList, rfl⟩
      have hns : nm.length = s.name.size := by rw [hnm, szl]
      generalize hO : funsT (l.take i) = O at hle hsn
      simp only [e1, List.length_map, hO, ba_append, List.take_succ_cons, List.take_zero, List.drop_zero, List.drop_succ_cons, ne_eq, not_false_eq_true, Option.map_some, Option.map_none, List.map_cons, List.map_nil, Bool.not_true, Bool.not_false, decide_true, decide_false, List.getElem?_cons_zero, List.getElem?_cons_succ, ↓aw1, ↓aw2, ↓aw17, aw3, aw4, aw5, aw6, aw7, aw8, aw9, aw10, aw11, aw12, aw13, aw14, aw15, aw16, aw19, Nat.reduceLeDiff, if_true, if_false, Nat.reduceEqDiff, Nat.reduceAdd, beq_self_eq_true, beq_true, beq_false, Bool.false_eq_true]
      repeat (refine Need.mk (by simp only [szl, List.length_append, List.length_cons, List.length_nil, List.length_replicate]; omega) ?_; simp only [ba_append, rep_snoc, List.take_succ_cons, List.take_zero, List.drop_zero, List.drop_succ_cons, ne_eq, not_false_eq_true, Option.map_some, Option.map_none, List.map_cons, List.map_nil, Bool.not_true, Bool.not_false, decide_true, decide_false, List.getElem?_cons_zero, List.getElem?_cons_succ, ↓aw1, ↓aw2, ↓aw17, aw3, aw4, aw5, aw6, aw7, aw8, aw9, aw10, aw11, aw12, aw13, aw14, aw15, aw16, aw19, Nat.reduceLeDiff, if_true, if_false, Nat.reduceEqDiff, Nat.reduceAdd, beq_self_eq_true, beq_true, beq_false, Bool.false_eq_true])
      refine Need.mk ⟨by omega, by first | omega | (simp; omega)⟩ (Elem.recs (map_get funv l i s hsi) ⟨rfl, rfl⟩ ?_)
      simp only [funv, hnm, List.length_map, ba_append, List.take_succ_cons, List.take_zero, List.drop_zero, List.drop_succ_cons, ne_eq, not_false_eq_true, Option.map_some, Option.map_none, List.map_cons, List.map_nil, Bool.not_true, Bool.not_false, decide_true, decide_false, List.getElem?_cons_zero, List.getElem?_cons_succ, ↓aw1, ↓aw2, ↓aw17, aw3, aw4, aw5, aw6, aw7, aw8, aw9, aw10, aw11, aw12, aw13, aw14, aw15, aw16, aw19, Nat.reduceLeDiff, if_true, if_false, Nat.reduceEqDiff, Nat.reduceAdd, beq_self_eq_true, beq_true, beq_false, Bool.false_eq_true]
      repeat (refine Need.mk (by simp only [szl, List.length_append, List.length_cons, List.length_nil, List.length_replicate]; omega) ?_; simp only [ba_append, rep_snoc, List.take_succ_cons, List.take_zero, List.drop_zero, List.drop_succ_cons, ne_eq, not_false_eq_true, Option.map_some, Option.map_none, List.map_cons, List.map_nil, Bool.not_true, Bool.not_false, decide_true, decide_false, List.getElem?_cons_zero, List.getElem?_cons_succ, ↓aw1, ↓aw2, ↓aw17, aw3, aw4, aw5, aw6, aw7, aw8, aw9, aw10, aw11, aw12, aw13, aw14, aw15, aw16, aw19, Nat.reduceLeDiff, if_true, if_false, Nat.reduceEqDiff, Nat.reduceAdd, beq_self_eq_true, beq_true, beq_false, Bool.false_eq_true])
      refine Need.mk ⟨by omega, by first | omega | (simp; omega)⟩ (Elem.recs (map_get funv l i s hsi) ⟨rfl, rfl⟩ ?_)
      simp only [funv, hnm, List.length_map, ba_append, List.take_succ_cons, List.take_zero, List.drop_zero, List.drop_succ_cons, ne_eq, not_false_eq_true, Option.map_some, Option.map_none, List.map_cons, List.map_nil, Bool.not_true, Bool.not_false, decide_true, decide_false, List.getElem?_cons_zero, List.getElem?_cons_succ, ↓aw1, ↓aw2, ↓aw17, aw3, aw4, aw5, aw6, aw7, aw8, aw9, aw10, aw11, aw12, aw13, aw14, aw15, aw16, aw19, Nat.reduceLeDiff, if_true, if_false, Nat.reduceEqDiff, Nat.reduceAdd, beq_self_eq_true, beq_true, beq_false, Bool.false_eq_true]
      refine EvRF.ret (hli (by omega) (by omega)) ?_
      simp only [ba_append, List.take_succ_cons, List.take_zero, List.drop_zero, List.drop_succ_cons, ne_eq, not_false_eq_true, Option.map_some, Option.map_none, List.map_cons, List.map_nil, Bool.not_true, Bool.not_false, decide_true, decide_false, List.getElem?_cons_zero, List.getElem?_cons_succ, ↓aw1, ↓aw2, ↓aw17, aw3, aw4, aw5, aw6, aw7, aw8, aw9, aw10, aw11, aw12, aw13, aw14, aw15, aw16, aw19, Nat.reduceLeDiff, if_true, if_false, Nat.reduceEqDiff, Nat.reduceAdd, beq_self_eq_true, beq_true, beq_false, Bool.false_eq_true]
      repeat (refine Need.mk (by simp only [szl, List.length_append, List.length_cons, List.length_nil, List.length_replicate]; omega) ?_; simp only [ba_append, rep_snoc, List.take_succ_cons, List.take_zero, List.drop_zero, List.drop_succ_cons, ne_eq, not_false_eq_true, Option.map_some, Option.map_none, List.map_cons, List.map_nil, Bool.not_true, Bool.not_false, decide_true, decide_false, List.getElem?_cons_zero, List.getElem?_cons_succ, ↓aw1, ↓aw2, ↓aw17, aw3, aw4, aw5, aw6, aw7, aw8, aw9, aw10, aw11, aw12, aw13, aw14, aw15, aw16, aw19, Nat.reduceLeDiff, if_true, if_false, Nat.reduceEqDiff, Nat.reduceAdd, beq_self_eq_true, beq_true, beq_false, Bool.false_eq_true])
      simp only [w3, ne_eq, not_false_eq_true, Option.map_some, Option.map_none, List.map_cons, List.map_nil, Bool.not_true, Bool.not_false, decide_true, decide_false, List.getElem?_cons_zero, List.getElem?_cons_succ, ↓aw1, ↓aw2, ↓aw17, aw3, aw4, aw5, aw6, aw7, aw8, aw9, aw10, aw11, aw12, aw13, aw14, aw15, aw16, aw19, Nat.reduceLeDiff, if_true, if_false, Nat.reduceEqDiff, Nat.reduceAdd, beq_self_eq_true, beq_true, beq_false, Bool.false_eq_true]
      exact ⟨i + 1, by omega, by omega, weak_of (by simp) (by simp [look, hsn, funT, lineT, hnm])⟩
    · have e1 : decide ((i : Int) < (l.length : Int)) = false := by rw [decide_eq_false_iff_not]; omega
      rw [List.take_of_length_le (by omega)]
      simp only [e1, List.length_map, ne_eq, not_false_eq_true, Option.map_some, Option.map_none, List.map_cons, List.map_nil, Bool.not_true, Bool.not_false, decide_true, decide_false, List.getElem?_cons_zero, List.getElem?_cons_succ, ↓aw1, ↓aw2, ↓aw17, aw3, aw4, aw5, aw6, aw7, aw8, aw9, aw10, aw11, aw12, aw13, aw14, aw15, aw16, aw19, Nat.reduceLeDiff, if_true, if_false, Nat.reduceEqDiff, Nat.reduceAdd, beq_self_eq_true, beq_true, beq_false, Bool.false_eq_true]
      exact Fin.same0 hcl rfl ⟨by simp only [textT, hs, if_true], rfl⟩
end Go.Abs.Fr

namespace Go.Abs.Fr
open Go Go.Abs Go.Proofs
set_option linter.unusedSimpArgs false
set_option maxRecDepth 100000

/-! ### The greatest length that is met -/
def mxA : List Arg → Nat
  | [] => 0
  | a :: l => max (max a.s.size (l.length + 1)) (mxA l)
mutual
def mxS : Stmt → Nat
  | .mk _ n a t e => max (max n.size (mxA a)) (max (mxL t) (mxL e))
def mxL : List Stmt → Nat
  | [] => 0
  | s :: l => max (l.length + 1) (max (mxS s) (mxL l))
end
theorem mxS_eq (s : Stmt) : mxS s = max (max s.name.size (mxA s.args)) (max (mxL s.thn) (mxL s.els)) := by cases s; simp only [mxS]; rfl
theorem mxA_len : ∀ (l : List Arg), l.length ≤ mxA l
  | [] => by simp [mxA]
  | a :: l => by simp only [mxA, List.length_cons]; omega
theorem mxL_len : ∀ (l : List Stmt), l.length ≤ mxL l
  | [] => by simp [mxL]
  | a :: l => by simp only [mxL, List.length_cons]; omega
theorem mxA_mem {l : List Arg} {a : Arg} (h : a ∈ l) : a.s.size ≤ mxA l := by
  induction l with
  | nil => cases h
  | cons x l ih =>
    simp only [mxA]
    rcases List.mem_cons.1 h with h | h
    · subst h; omega
    · have := ih h; omega
theorem mxL_mem {l : List Stmt} {a : Stmt} (h : a ∈ l) : mxS a ≤ mxL l := by
  induction l with
  | nil => cases h
  | cons x l ih =>
    simp only [mxL]
    rcases List.mem_cons.1 h with h | h
    · subst h; omega
    · have := ih h; omega
def mxF : List Fun → Nat
  | [] => 0
  | f :: l => max (l.length + 1) (max (max f.name.size (mxL f.body)) (mxF l))
theorem mxF_len : ∀ (l : List Fun), l.length ≤ mxF l
  | [] => by simp [mxF]
  | a :: l => by simp only [mxF, List.length_cons]; omega
theorem mxF_mem {l : List Fun} {a : Fun} (h : a ∈ l) : a.name.size ≤ mxF l ∧ mxL a.body ≤ mxF l := by
  induction l with
  | nil => cases h
  | cons x l ih =>
    simp only [mxF]
    rcases List.mem_cons.1 h with h | h
    · subst h; omega
    · have := ih h; omega

/-! ### How many are left -/
def fewA : List Arg → Int → Int
  | [], n => n
  | a :: l, n => if n < 0 then n else fewA l (n - a.s.size)
mutual
def fewS : Stmt → Int → Int
  | .mk _ nm a t e, n => fewL e (fewL t (fewA a (n - 1 - a.length - nm.size)))
def fewL : List Stmt → Int → Int
  | [], n => n
  | s :: l, n => if n < 0 then n else fewL l (fewS s n)
end
def fewF : List Fun → Int → Int
  | [], n => n
  | f :: l, n => if n < 0 then n else fewF l (fewL f.body (n - 1 - f.name.size))
theorem fewS_eq (s : Stmt) (n : Int) : fewS s n = fewL s.els (fewL s.thn (fewA s.args (n - 1 - s.args.length - s.name.size))) := by cases s; simp only [fewS]; rfl
theorem fewA_neg {l : List Arg} {n : Int} (h : n < 0) : fewA l n = n := by cases l <;> simp [fewA, h]
theorem fewL_neg {l : List Stmt} {n : Int} (h : n < 0) : fewL l n = n := by cases l <;> simp [fewL, h]
theorem fewF_neg {l : List Fun} {n : Int} (h : n < 0) : fewF l n = n := by cases l <;> simp [fewF, h]

theorem fewA_bounds {M : Nat} : ∀ (l : List Arg) (n : Int), mxA l ≤ M → fewA l n ≤ n ∧ (n ≤ fewA l n ∨ -(M : Int) ≤ fewA l n)
  | [], n, _ => by simp [fewA]
  | a :: l, n, h => by
    simp only [mxA] at h
    simp only [fewA]
    split
    · omega
    · have := fewA_bounds (M := M) l (n - a.s.size) (by omega); omega
mutual
theorem fewS_bounds {M : Nat} : ∀ (s : Stmt) (n : Int), mxS s ≤ M → 0 ≤ n → fewS s n ≤ n ∧ -(1 + 2 * (M : Int)) ≤ fewS s n
  | .mk o nm a t e, n, h, h0 => by
    simp only [mxS] at h
    simp only [fewS]
    have hl := mxA_len a
    have h1 := fewA_bounds (M := M) a (n - 1 - a.length - nm.size) (by omega)
    have h2 := fewL_bounds (M := M) t (fewA a (n - 1 - a.length - nm.size)) (by omega)
    have h3 := fewL_bounds (M := M) e (fewL t (fewA a (n - 1 - a.length - nm.size))) (by omega)
    omega
theorem fewL_bounds {M : Nat} : ∀ (l : List Stmt) (n : Int), mxL l ≤ M → fewL l n ≤ n ∧ (n ≤ fewL l n ∨ -(1 + 2 * (M : Int)) ≤ fewL l n)
  | [], n, _ => by simp [fewL]
  | s :: l, n, h => by
    simp only [mxL] at h
    simp only [fewL]
    split
    · omega
    · have h1 := fewS_bounds (M := M) s n (by omega) (by omega)
      have h2 := fewL_bounds (M := M) l (fewS s n) (by omega); omega
end

/-! What is left tells how much there is. -/
theorem fewA_w : ∀ (l : List Arg) (n : Int), 0 ≤ fewA l n → fewA l n = n + l.length - wA l
  | [], n, _ => by simp [fewA, wA]
  | a :: l, n, h => by
    simp only [fewA] at h ⊢
    split at h
    · omega
    · rename_i hn
      rw [if_neg hn, fewA_w l _ h]
      simp only [wA, List.length_cons]; omega
mutual
theorem fewS_w : ∀ (s : Stmt) (n : Int), 0 ≤ fewS s n → fewS s n = n - wS s
  | .mk o nm a t e, n, h => by
    simp only [fewS] at h ⊢
    have h3 := fewL_w e _ h
    have h2 := fewL_w t (fewA a (n - 1 - a.length - nm.size)) (by omega)
    have h1 := fewA_w a (n - 1 - a.length - nm.size) (by omega)
    simp only [wS]; omega
theorem fewL_w : ∀ (l : List Stmt) (n : Int), 0 ≤ fewL l n → fewL l n = n - wL l
  | [], n, _ => by simp [fewL, wL]
  | s :: l, n, h => by
    simp only [fewL] at h ⊢
    split at h
    · omega
    · rename_i hn
      rw [if_neg hn]
      have h2 := fewL_w l _ h
      have h1 := fewS_w s n (by omega)
      simp only [wL]; omega
end
theorem fewF_w : ∀ (l : List Fun) (n : Int), 0 ≤ fewF l n → fewF l n = n - wF l
  | [], n, _ => by simp [fewF, wF]
  | f :: l, n, h => by
    simp only [fewF] at h ⊢
    split at h
    · omega
    · rename_i hn
      rw [if_neg hn]
      have h2 := fewF_w l _ h
      have h1 := fewL_w f.body _ (by omega : 0 ≤ fewL f.body (n - 1 - f.name.size))
      simp only [wF]; omega
end Go.Abs.Fr

namespace Go.Abs.Fr
open Go Go.Abs Go.Proofs
set_option linter.unusedSimpArgs false
set_option maxRecDepth 100000

theorem aw_i64 (a : Int) (h1 : -9223372036854775808 ≤ a) (h2 : a ≤ 9223372036854775807) : IntKind.i64.wrap a = a := by rw [wrap_i64] <;> omega

set_option maxHeartbeats 4000000 in
theorem few_ev : ∀ (k : Nat) (l : List Stmt), szL l ≤ k → mxL l ≤ 2 ^ 48 → ∀ (n : Int), -(2 ^ 60) ≤ n → n ≤ 2 ^ 60 → ∀ (h : List AObj), EvR E0 17 [bodyv l, i64 n] h (i64 (fewL l n)) := by
  intro k
  induction k using Nat.strongRecOn with
  | _ k ih =>
    intro l hk hmx n hn0 hn1 h
    refine ev_of (fn := Tryd.f17) (hs := []) Tryd.func17 c17 (by simp) fun hcl => ?_
    have hlen := mxL_len l
    generalize hR : fewL l n = R
    simp only [ac17, List.length_map, ne_eq, not_false_eq_true, Option.map_some, Option.map_none, List.map_cons, List.map_nil, Bool.not_true, Bool.not_false, decide_true, decide_false, List.getElem?_cons_zero, List.getElem?_cons_succ, ↓aw1, ↓aw2, ↓aw17, aw3, aw4, aw5, aw6, aw7, aw8, aw9, aw10, aw11, aw12, aw13, aw14, aw15, aw16, aw19, Nat.reduceLeDiff, if_true, if_false, Nat.reduceEqDiff, Nat.reduceAdd, beq_self_eq_true, beq_true, beq_false, Bool.false_eq_true]
    refine LoopF.by (α := Nat × Int) (fun x => ⟨[(0, bodyv l), (1, i64 x.2), (5, i64 x.1)], h⟩) (fun x => l.length - x.1)
      (fun x => x.1 ≤ l.length ∧ -(2 ^ 60) ≤ x.2 ∧ x.2 ≤ 2 ^ 60 ∧ fewL (l.drop x.1) x.2 = R) (0, n) ⟨by omega, hn0, hn1, by simpa using hR⟩ (weak_of (by simp) (by simp [look])) ?_
    rintro ⟨i, m⟩ ⟨h1, hm0, hm1, h2⟩
    simp only at h1 hm0 hm1 h2
    by_cases hi : i < l.length
    · have e1 : decide ((i : Int) < (l.length : Int)) = true := by rw [decide_eq_true_eq]; omega
      cases e2 : decide ((0 : Int) ≤ m)
      · simp only [e1, e2, List.length_map, ne_eq, not_false_eq_true, Option.map_some, Option.map_none, List.map_cons, List.map_nil, Bool.not_true, Bool.not_false, decide_true, decide_false, List.getElem?_cons_zero, List.getElem?_cons_succ, ↓aw1, ↓aw2, ↓aw17, aw3, aw4, aw5, aw6, aw7, aw8, aw9, aw10, aw11, aw12, aw13, aw14, aw15, aw16, aw19, Nat.reduceLeDiff, if_true, if_false, Nat.reduceEqDiff, Nat.reduceAdd, beq_self_eq_true, beq_true, beq_false, Bool.false_eq_true]
        rw [decide_eq_false_iff_not] at e2
        rw [fewL_neg (by omega)] at h2
        subst h2
        exact Fin.same0 hcl rfl ⟨rfl, rfl⟩
      · obtain ⟨s, hs⟩ : ∃ s, l[i]? = some s := ⟨_, List.getElem?_eq_getElem hi⟩
        have w3 : IntKind.i64.wrap ((i : Int) + 1) = ((i + 1 : Nat) : Int) := by rw [wrap_i64] <;> omega
        have hmem := List.mem_of_getElem? hs
        have hszm := szL_mem hmem
        have hszs := szS_eq s
        have hmxm := mxL_mem hmem
        have hmxs := mxS_eq s
        have hma := mxA_len s.args
        rw [decide_eq_true_eq] at e2
        have hb := fewS_bounds (M := 2 ^ 48) s m (by omega) e2
        have hbA := fewA_bounds (M := 2 ^ 48) s.args (m - 1 - s.args.length - s.name.size) (by omega)
        have hbT := fewL_bounds (M := 2 ^ 48) s.thn (fewA s.args (m - 1 - s.args.length - s.name.size)) (by omega)
        rw [drop_get hs] at h2
        simp only [fewL, if_neg (show ¬ m < 0 by omega)] at h2
        rw [fewS_eq] at hb h2
        generalize hA : fewA s.args (m - 1 - s.args.length - s.name.size) = A at hb h2 hbA hbT
        have wm1 : IntKind.i64.wrap (m - 1) = m - 1 := aw_i64 _ (by omega) (by omega)
        have wm2 : IntKind.i64.wrap (m - 1 - (s.args.length : Int)) = m - 1 - (s.args.length : Int) := aw_i64 _ (by omega) (by omega)
        have wm3 : IntKind.i64.wrap (m - 1 - (s.args.length : Int) - (s.name.size : Int)) = m - 1 - (s.args.length : Int) - (s.name.size : Int) := aw_i64 _ (by omega) (by omega)
        have e2' : decide ((0 : Int) ≤ m) = true := by rw [decide_eq_true_eq]; exact e2
        have hg := map_get stmtv l i s hs
        simp only [e1, e2', List.length_map, ne_eq, not_false_eq_true, Option.map_some, Option.map_none, List.map_cons, List.map_nil, Bool.not_true, Bool.not_false, decide_true, decide_false, List.getElem?_cons_zero, List.getElem?_cons_succ, ↓aw1, ↓aw2, ↓aw17, aw3, aw4, aw5, aw6, aw7, aw8, aw9, aw10, aw11, aw12, aw13, aw14, aw15, aw16, aw19, Nat.reduceLeDiff, if_true, if_false, Nat.reduceEqDiff, Nat.reduceAdd, beq_self_eq_true, beq_true, beq_false, Bool.false_eq_true]
        repeat (refine Need.mk ⟨by omega, by first | omega | (simp; omega)⟩ (Elem.recs hg (by rw [stmtv_eq]; exact ⟨rfl, rfl⟩) ?_)
                simp only [stmtv_eq, wm1, wm2, wm3, List.length_map, List.take_succ_cons, List.take_zero, List.drop_zero, List.drop_succ_cons, ne_eq, not_false_eq_true, Option.map_some, Option.map_none, List.map_cons, List.map_nil, Bool.not_true, Bool.not_false, decide_true, decide_false, List.getElem?_cons_zero, List.getElem?_cons_succ, ↓aw1, ↓aw2, ↓aw17, aw3, aw4, aw5, aw6, aw7, aw8, aw9, aw10, aw11, aw12, aw13, aw14, aw15, aw16, aw19, Nat.reduceLeDiff, if_true, if_false, Nat.reduceEqDiff, Nat.reduceAdd, beq_self_eq_true, beq_true, beq_false, Bool.false_eq_true])
        refine LoopF.by (α := Nat × Int) (fun x => ⟨[(0, bodyv l), (1, i64 x.2), (5, i64 i), (6, i64 x.1)], h⟩) (fun x => s.args.length - x.1)
          (fun x => x.1 ≤ s.args.length ∧ -(2 ^ 60) ≤ x.2 ∧ x.2 ≤ 2 ^ 60 ∧ fewA (s.args.drop x.1) x.2 = A) (0, m - 1 - (s.args.length : Int) - (s.name.size : Int)) ⟨by omega, by simp only; omega, by simp only; omega, by simpa using hA⟩ (weak_of (by simp) (by simp [look])) ?_
        rintro ⟨j, q⟩ ⟨hj1, hq0, hq1, hj2⟩
        simp only at hj1 hq0 hq1 hj2
        have fin : ∀ (ev : q = A), True := fun _ => trivial
        by_cases hj : j < s.args.length
        · have f1 : decide ((j : Int) < (s.args.length : Int)) = true := by rw [decide_eq_true_eq]; omega
          cases f2 : decide ((0 : Int) ≤ q)
          · rw [decide_eq_false_iff_not] at f2
            rw [fewA_neg (by omega)] at hj2
            subst hj2
            have f2' : decide ((0 : Int) ≤ q) = false := by rw [decide_eq_false_iff_not]; exact f2
            simp only [List.length_map, ne_eq, not_false_eq_true, Option.map_some, Option.map_none, List.map_cons, List.map_nil, Bool.not_true, Bool.not_false, decide_true, decide_false, List.getElem?_cons_zero, List.getElem?_cons_succ, ↓aw1, ↓aw2, ↓aw17, aw3, aw4, aw5, aw6, aw7, aw8, aw9, aw10, aw11, aw12, aw13, aw14, aw15, aw16, aw19, Nat.reduceLeDiff, if_true, if_false, Nat.reduceEqDiff, Nat.reduceAdd, beq_self_eq_true, beq_true, beq_false, Bool.false_eq_true]
            repeat (refine Need.mk ⟨by omega, by first | omega | (simp; omega)⟩ (Elem.recs hg (by rw [stmtv_eq]; exact ⟨rfl, rfl⟩) ?_); simp only [stmtv_eq, f1, f2', List.length_map, List.take_succ_cons, List.take_zero, List.drop_zero, List.drop_succ_cons, ne_eq, not_false_eq_true, Option.map_some, Option.map_none, List.map_cons, List.map_nil, Bool.not_true, Bool.not_false, decide_true, decide_false, List.getElem?_cons_zero, List.getElem?_cons_succ, ↓aw1, ↓aw2, ↓aw17, aw3, aw4, aw5, aw6, aw7, aw8, aw9, aw10, aw11, aw12, aw13, aw14, aw15, aw16, aw19, Nat.reduceLeDiff, if_true, if_false, Nat.reduceEqDiff, Nat.reduceAdd, beq_self_eq_true, beq_true, beq_false, Bool.false_eq_true])
            (refine EvF.ret (ih (szL s.thn) (by omega) s.thn (Nat.le_refl _) (by omega) q (by omega) (by omega) h) ?_; simp only [stmtv_eq, List.length_map, List.take_succ_cons, List.take_zero, List.drop_zero, List.drop_succ_cons, ne_eq, not_false_eq_true, Option.map_some, Option.map_none, List.map_cons, List.map_nil, Bool.not_true, Bool.not_false, decide_true, decide_false, List.getElem?_cons_zero, List.getElem?_cons_succ, ↓aw1, ↓aw2, ↓aw17, aw3, aw4, aw5, aw6, aw7, aw8, aw9, aw10, aw11, aw12, aw13, aw14, aw15, aw16, aw19, Nat.reduceLeDiff, if_true, if_false, Nat.reduceEqDiff, Nat.reduceAdd, beq_self_eq_true, beq_true, beq_false, Bool.false_eq_true]; repeat (refine Need.mk ⟨by omega, by first | omega | (simp; omega)⟩ (Elem.recs hg (by rw [stmtv_eq]; exact ⟨rfl, rfl⟩) ?_); simp only [stmtv_eq, List.length_map, List.take_succ_cons, List.take_zero, List.drop_zero, List.drop_succ_cons, ne_eq, not_false_eq_true, Option.map_some, Option.map_none, List.map_cons, List.map_nil, Bool.not_true, Bool.not_false, decide_true, decide_false, List.getElem?_cons_zero, List.getElem?_cons_succ, ↓aw1, ↓aw2, ↓aw17, aw3, aw4, aw5, aw6, aw7, aw8, aw9, aw10, aw11, aw12, aw13, aw14, aw15, aw16, aw19, Nat.reduceLeDiff, if_true, if_false, Nat.reduceEqDiff, Nat.reduceAdd, beq_self_eq_true, beq_true, beq_false, Bool.false_eq_true]); refine EvF.ret (ih (szL s.els) (by omega) s.els (Nat.le_refl _) (by omega) _ (by omega) (by omega) h) ?_; simp only [w3, ne_eq, not_false_eq_true, Option.map_some, Option.map_none, List.map_cons, List.map_nil, Bool.not_true, Bool.not_false, decide_true, decide_false, List.getElem?_cons_zero, List.getElem?_cons_succ, ↓aw1, ↓aw2, ↓aw17, aw3, aw4, aw5, aw6, aw7, aw8, aw9, aw10, aw11, aw12, aw13, aw14, aw15, aw16, aw19, Nat.reduceLeDiff, if_true, if_false, Nat.reduceEqDiff, Nat.reduceAdd, beq_self_eq_true, beq_true, beq_false, Bool.false_eq_true]; exact ⟨(i + 1, _), ⟨by simp only; omega, by simp only; omega, by simp only; omega, h2⟩, by simp only; omega, weak_of (by simp) (by simp [look])⟩)
          · obtain ⟨a, ha⟩ : ∃ a, s.args[j]? = some a := ⟨_, List.getElem?_eq_getElem hj⟩
            have w4 : IntKind.i64.wrap ((j : Int) + 1) = ((j + 1 : Nat) : Int) := by rw [wrap_i64] <;> omega
            have ham := mxA_mem (List.mem_of_getElem? ha)
            rw [drop_get ha] at hj2
            rw [decide_eq_true_eq] at f2
            simp only [fewA, if_neg (show ¬ q < 0 by omega)] at hj2
            have f2' : decide ((0 : Int) ≤ q) = true := by rw [decide_eq_true_eq]; exact f2
            have wq : IntKind.i64.wrap (q - (a.s.size : Int)) = q - (a.s.size : Int) := aw_i64 _ (by omega) (by omega)
            have hga := map_get argv s.args j a ha
            simp only [List.length_map, ne_eq, not_false_eq_true, Option.map_some, Option.map_none, List.map_cons, List.map_nil, Bool.not_true, Bool.not_false, decide_true, decide_false, List.getElem?_cons_zero, List.getElem?_cons_succ, ↓aw1, ↓aw2, ↓aw17, aw3, aw4, aw5, aw6, aw7, aw8, aw9, aw10, aw11, aw12, aw13, aw14, aw15, aw16, aw19, Nat.reduceLeDiff, if_true, if_false, Nat.reduceEqDiff, Nat.reduceAdd, beq_self_eq_true, beq_true, beq_false, Bool.false_eq_true]
            repeat (refine Need.mk ⟨by omega, by first | omega | (simp; omega)⟩ (Elem.recs hg (by rw [stmtv_eq]; exact ⟨rfl, rfl⟩) ?_); simp only [stmtv_eq, f1, f2', List.length_map, List.take_succ_cons, List.take_zero, List.drop_zero, List.drop_succ_cons, ne_eq, not_false_eq_true, Option.map_some, Option.map_none, List.map_cons, List.map_nil, Bool.not_true, Bool.not_false, decide_true, decide_false, List.getElem?_cons_zero, List.getElem?_cons_succ, ↓aw1, ↓aw2, ↓aw17, aw3, aw4, aw5, aw6, aw7, aw8, aw9, aw10, aw11, aw12, aw13, aw14, aw15, aw16, aw19, Nat.reduceLeDiff, if_true, if_false, Nat.reduceEqDiff, Nat.reduceAdd, beq_self_eq_true, beq_true, beq_false, Bool.false_eq_true])
            repeat (refine Need.mk ⟨by omega, by first | omega | (simp; omega)⟩ (Elem.recs hga ⟨rfl, rfl⟩ ?_)
                    simp only [argv, wq, w4, List.length_map, List.take_succ_cons, List.take_zero, List.drop_zero, List.drop_succ_cons, ne_eq, not_false_eq_true, Option.map_some, Option.map_none, List.map_cons, List.map_nil, Bool.not_true, Bool.not_false, decide_true, decide_false, List.getElem?_cons_zero, List.getElem?_cons_succ, ↓aw1, ↓aw2, ↓aw17, aw3, aw4, aw5, aw6, aw7, aw8, aw9, aw10, aw11, aw12, aw13, aw14, aw15, aw16, aw19, Nat.reduceLeDiff, if_true, if_false, Nat.reduceEqDiff, Nat.reduceAdd, beq_self_eq_true, beq_true, beq_false, Bool.false_eq_true])
            exact ⟨(j + 1, q - (a.s.size : Int)), ⟨by simp only; omega, by simp only; omega, by simp only; omega, hj2⟩, by simp only; omega, weak_of (by simp) (by simp [look])⟩
        · have f1 : decide ((j : Int) < (s.args.length : Int)) = false := by rw [decide_eq_false_iff_not]; omega
          rw [List.drop_eq_nil_of_le (by omega)] at hj2
          simp only [fewA] at hj2
          subst hj2
          simp only [List.length_map, ne_eq, not_false_eq_true, Option.map_some, Option.map_none, List.map_cons, List.map_nil, Bool.not_true, Bool.not_false, decide_true, decide_false, List.getElem?_cons_zero, List.getElem?_cons_succ, ↓aw1, ↓aw2, ↓aw17, aw3, aw4, aw5, aw6, aw7, aw8, aw9, aw10, aw11, aw12, aw13, aw14, aw15, aw16, aw19, Nat.reduceLeDiff, if_true, if_false, Nat.reduceEqDiff, Nat.reduceAdd, beq_self_eq_true, beq_true, beq_false, Bool.false_eq_true]
          repeat (refine Need.mk ⟨by omega, by first | omega | (simp; omega)⟩ (Elem.recs hg (by rw [stmtv_eq]; exact ⟨rfl, rfl⟩) ?_); simp only [stmtv_eq, f1, List.length_map, List.take_succ_cons, List.take_zero, List.drop_zero, List.drop_succ_cons, ne_eq, not_false_eq_true, Option.map_some, Option.map_none, List.map_cons, List.map_nil, Bool.not_true, Bool.not_false, decide_true, decide_false, List.getElem?_cons_zero, List.getElem?_cons_succ, ↓aw1, ↓aw2, ↓aw17, aw3, aw4, aw5, aw6, aw7, aw8, aw9, aw10, aw11, aw12, aw13, aw14, aw15, aw16, aw19, Nat.reduceLeDiff, if_true, if_false, Nat.reduceEqDiff, Nat.reduceAdd, beq_self_eq_true, beq_true, beq_false, Bool.false_eq_true])
          (refine EvF.ret (ih (szL s.thn) (by omega) s.thn (Nat.le_refl _) (by omega) q (by omega) (by omega) h) ?_; simp only [stmtv_eq, List.length_map, List.take_succ_cons, List.take_zero, List.drop_zero, List.drop_succ_cons, ne_eq, not_false_eq_true, Option.map_some, Option.map_none, List.map_cons, List.map_nil, Bool.not_true, Bool.not_false, decide_true, decide_false, List.getElem?_cons_zero, List.getElem?_cons_succ, ↓aw1, ↓aw2, ↓aw17, aw3, aw4, aw5, aw6, aw7, aw8, aw9, aw10, aw11, aw12, aw13, aw14, aw15, aw16, aw19, Nat.reduceLeDiff, if_true, if_false, Nat.reduceEqDiff, Nat.reduceAdd, beq_self_eq_true, beq_true, beq_false, Bool.false_eq_true]; repeat (refine Need.mk ⟨by omega, by first | omega | (simp; omega)⟩ (Elem.recs hg (by rw [stmtv_eq]; exact ⟨rfl, rfl⟩) ?_); simp only [stmtv_eq, List.length_map, List.take_succ_cons, List.take_zero, List.drop_zero, List.drop_succ_cons, ne_eq, not_false_eq_true, Option.map_some, Option.map_none, List.map_cons, List.map_nil, Bool.not_true, Bool.not_false, decide_true, decide_false, List.getElem?_cons_zero, List.getElem?_cons_succ, ↓aw1, ↓aw2, ↓aw17, aw3, aw4, aw5, aw6, aw7, aw8, aw9, aw10, aw11, aw12, aw13, aw14, aw15, aw16, aw19, Nat.reduceLeDiff, if_true, if_false, Nat.reduceEqDiff, Nat.reduceAdd, beq_self_eq_true, beq_true, beq_false, Bool.false_eq_true]); refine EvF.ret (ih (szL s.els) (by omega) s.els (Nat.le_refl _) (by omega) _ (by omega) (by omega) h) ?_; simp only [w3, ne_eq, not_false_eq_true, Option.map_some, Option.map_none, List.map_cons, List.map_nil, Bool.not_true, Bool.not_false, decide_true, decide_false, List.getElem?_cons_zero, List.getElem?_cons_succ, ↓aw1, ↓aw2, ↓aw17, aw3, aw4, aw5, aw6, aw7, aw8, aw9, aw10, aw11, aw12, aw13, aw14, aw15, aw16, aw19, Nat.reduceLeDiff, if_true, if_false, Nat.reduceEqDiff, Nat.reduceAdd, beq_self_eq_true, beq_true, beq_false, Bool.false_eq_true]; exact ⟨(i + 1, _), ⟨by simp only; omega, by simp only; omega, by simp only; omega, h2⟩, by simp only; omega, weak_of (by simp) (by simp [look])⟩)
    · have e1 : decide ((i : Int) < (l.length : Int)) = false := by rw [decide_eq_false_iff_not]; omega
      rw [List.drop_eq_nil_of_le (by omega)] at h2
      simp only [fewL] at h2
      subst h2
      simp only [e1, List.length_map, ne_eq, not_false_eq_true, Option.map_some, Option.map_none, List.map_cons, List.map_nil, Bool.not_true, Bool.not_false, decide_true, decide_false, List.getElem?_cons_zero, List.getElem?_cons_succ, ↓aw1, ↓aw2, ↓aw17, aw3, aw4, aw5, aw6, aw7, aw8, aw9, aw10, aw11, aw12, aw13, aw14, aw15, aw16, aw19, Nat.reduceLeDiff, if_true, if_false, Nat.reduceEqDiff, Nat.reduceAdd, beq_self_eq_true, beq_true, beq_false, Bool.false_eq_true]
      exact Fin.same0 hcl rfl ⟨rfl, rfl⟩

theorem isfew_ev (l : List Fun) (hmx : mxF l ≤ 2 ^ 48) (n : Int) (hn0 : 0 ≤ n) (hn1 : n ≤ 2 ^ 60) (h : List AObj) : EvR E0 8 [funsv l, i64 n] h (boolv (decide (0 ≤ fewF l n))) := by
  refine ev_of (fn := Tryd.f8) (hs := []) Tryd.func8 c8 (by simp) fun hcl => ?_
  have hlen := mxF_len l
  generalize hR : fewF l n = R
  simp only [ac8, List.length_map, ne_eq, not_false_eq_true, Option.map_some, Option.map_none, List.map_cons, List.map_nil, Bool.not_true, Bool.not_false, decide_true, decide_false, List.getElem?_cons_zero, List.getElem?_cons_succ, ↓aw1, ↓aw2, ↓aw17, aw3, aw4, aw5, aw6, aw7, aw8, aw9, aw10, aw11, aw12, aw13, aw14, aw15, aw16, aw19, Nat.reduceLeDiff, if_true, if_false, Nat.reduceEqDiff, Nat.reduceAdd, beq_self_eq_true, beq_true, beq_false, Bool.false_eq_true]
  refine LoopF.by (α := Nat × Int) (fun x => ⟨[(0, funsv l), (1, i64 x.2), (5, i64 x.1)], h⟩) (fun x => l.length - x.1)
    (fun x => x.1 ≤ l.length ∧ -(2 ^ 60) ≤ x.2 ∧ x.2 ≤ 2 ^ 60 ∧ fewF (l.drop x.1) x.2 = R) (0, n) ⟨by omega, by simp only; omega, hn1, by simpa using hR⟩ (weak_of (by simp) (by simp [look])) ?_
  rintro ⟨i, m⟩ ⟨h1, hm0, hm1, h2⟩
  simp only at h1 hm0 hm1 h2
  by_cases hi : i < l.length
  · have e1 : decide ((i : Int) < (l.length : Int)) = true := by rw [decide_eq_true_eq]; omega
    cases e2 : decide ((0 : Int) ≤ m)
    · simp only [e1, e2, List.length_map, ne_eq, not_false_eq_true, Option.map_some, Option.map_none, List.map_cons, List.map_nil, Bool.not_true, Bool.not_false, decide_true, decide_false, List.getElem?_cons_zero, List.getElem?_cons_succ, ↓aw1, ↓aw2, ↓aw17, aw3, aw4, aw5, aw6, aw7, aw8, aw9, aw10, aw11, aw12, aw13, aw14, aw15, aw16, aw19, Nat.reduceLeDiff, if_true, if_false, Nat.reduceEqDiff, Nat.reduceAdd, beq_self_eq_true, beq_true, beq_false, Bool.false_eq_true]
      have e3 := e2
      rw [decide_eq_false_iff_not] at e2
      rw [fewF_neg (by omega)] at h2
      subst h2
      exact Fin.same0 hcl rfl ⟨by simp only [e3], rfl⟩
    · obtain ⟨s, hs⟩ : ∃ s, l[i]? = some s := ⟨_, List.getElem?_eq_getElem hi⟩
      have w3 : IntKind.i64.wrap ((i : Int) + 1) = ((i + 1 : Nat) : Int) := by rw [wrap_i64] <;> omega
      have hmem := List.mem_of_getElem? hs
      have hmxm := mxF_mem hmem
      rw [decide_eq_true_eq] at e2
      have hb := fewL_bounds (M := 2 ^ 48) s.body (m - 1 - s.name.size) (by omega)
      rw [drop_get hs] at h2
      simp only [fewF, if_neg (show ¬ m < 0 by omega)] at h2
      have wm1 : IntKind.i64.wrap (m - 1) = m - 1 := aw_i64 _ (by omega) (by omega)
      have wm2 : IntKind.i64.wrap (m - 1 - (s.name.size : Int)) = m - 1 - (s.name.size : Int) := aw_i64 _ (by omega) (by omega)
      have e2' : decide ((0 : Int) ≤ m) = true := by rw [decide_eq_true_eq]; exact e2
      have hg := map_get funv l i s hs
      simp only [e1, e2', List.length_map, ne_eq, not_false_eq_true, Option.map_some, Option.map_none, List.map_cons, List.map_nil, Bool.not_true, Bool.not_false, decide_true, decide_false, List.getElem?_cons_zero, List.getElem?_cons_succ, ↓aw1, ↓aw2, ↓aw17, aw3, aw4, aw5, aw6, aw7, aw8, aw9, aw10, aw11, aw12, aw13, aw14, aw15, aw16, aw19, Nat.reduceLeDiff, if_true, if_false, Nat.reduceEqDiff, Nat.reduceAdd, beq_self_eq_true, beq_true, beq_false, Bool.false_eq_true]
      repeat (refine Need.mk ⟨by omega, by first | omega | (simp; omega)⟩ (Elem.recs hg ⟨rfl, rfl⟩ ?_)
              simp only [funv, wm1, wm2, List.length_map, List.take_succ_cons, List.take_zero, List.drop_zero, List.drop_succ_cons, ne_eq, not_false_eq_true, Option.map_some, Option.map_none, List.map_cons, List.map_nil, Bool.not_true, Bool.not_false, decide_true, decide_false, List.getElem?_cons_zero, List.getElem?_cons_succ, ↓aw1, ↓aw2, ↓aw17, aw3, aw4, aw5, aw6, aw7, aw8, aw9, aw10, aw11, aw12, aw13, aw14, aw15, aw16, aw19, Nat.reduceLeDiff, if_true, if_false, Nat.reduceEqDiff, Nat.reduceAdd, beq_self_eq_true, beq_true, beq_false, Bool.false_eq_true])
      refine EvRF.ret (few_ev _ s.body (Nat.le_refl _) (by omega) _ (by omega) (by omega) h) ?_
      simp only [w3, ne_eq, not_false_eq_true, Option.map_some, Option.map_none, List.map_cons, List.map_nil, Bool.not_true, Bool.not_false, decide_true, decide_false, List.getElem?_cons_zero, List.getElem?_cons_succ, ↓aw1, ↓aw2, ↓aw17, aw3, aw4, aw5, aw6, aw7, aw8, aw9, aw10, aw11, aw12, aw13, aw14, aw15, aw16, aw19, Nat.reduceLeDiff, if_true, if_false, Nat.reduceEqDiff, Nat.reduceAdd, beq_self_eq_true, beq_true, beq_false, Bool.false_eq_true]
      exact ⟨(i + 1, _), ⟨by simp only; omega, by simp only; omega, by simp only; omega, h2⟩, by simp only; omega, weak_of (by simp) (by simp [look])⟩
  · have e1 : decide ((i : Int) < (l.length : Int)) = false := by rw [decide_eq_false_iff_not]; omega
    rw [List.drop_eq_nil_of_le (by omega)] at h2
    simp only [fewF] at h2
    subst h2
    simp only [e1, List.length_map, ne_eq, not_false_eq_true, Option.map_some, Option.map_none, List.map_cons, List.map_nil, Bool.not_true, Bool.not_false, decide_true, decide_false, List.getElem?_cons_zero, List.getElem?_cons_succ, ↓aw1, ↓aw2, ↓aw17, aw3, aw4, aw5, aw6, aw7, aw8, aw9, aw10, aw11, aw12, aw13, aw14, aw15, aw16, aw19, Nat.reduceLeDiff, if_true, if_false, Nat.reduceEqDiff, Nat.reduceAdd, beq_self_eq_true, beq_true, beq_false, Bool.false_eq_true]
    exact Fin.same0 hcl rfl ⟨rfl, rfl⟩
end Go.Abs.Fr
