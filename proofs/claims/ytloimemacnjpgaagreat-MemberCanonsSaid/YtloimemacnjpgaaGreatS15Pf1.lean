/- The plain laws of the document's sets. -/
import Derived.Test.YtloimemacnjpgaaGreatS15RwM
set_option linter.all false
namespace Go.Abs.Fr
open Go Go.Abs Go.Proofs
set_option linter.unusedSimpArgs false
set_option maxRecDepth 100000

def okN (p : Option Rg) (x : Rg) : Bool := !decide (x.hi < x.lo) && (match p with | none => true | some q => !decide (q.hi = 9223372036854775807) && !decide (x.lo ≤ q.hi + 1))
theorem rightW_cons (p : Option Rg) (x : Rg) (l : List Rg) : rightW p (x :: l) = (okN p x && rightW (some x) l) := by
  cases p <;> simp only [rightW, okN, Bool.and_assoc]
theorem rightW_snoc : ∀ (l : List Rg) (p : Option Rg) (x : Rg), rightW p (l ++ [x]) = (rightW p l && okN (match l.getLast? with | some q => some q | none => p) x)
  | [], p, x => by simp [rightW_cons, rightW]
  | a :: l, p, x => by
    rw [List.cons_append, rightW_cons, rightW_cons, rightW_snoc l (some a) x, Bool.and_assoc]
    congr 2
    cases l with
    | nil => rfl
    | cons b l => rw [List.getLast?_cons_cons]; cases hq : (b :: l).getLast? with
      | none => simp at hq
      | some q => rfl
theorem okN_iff {p : Option Rg} {x : Rg} : okN p x = true ↔ x.lo ≤ x.hi ∧ ∀ q, p = some q → q.hi + 1 < x.lo := by
  have hx := x.ok.1
  unfold InR at hx
  unfold okN
  cases p with
  | none => simp
  | some q =>
    simp only [Bool.and_eq_true, Bool.not_eq_true', decide_eq_false_iff_not, Option.some.injEq, forall_eq']
    have := x.ok.1
    unfold InR at this
    constructor
    · rintro ⟨h1, h2, h3⟩; omega
    · rintro ⟨h1, h2⟩; omega
theorem addP_right {out : List Rg} {x hi : Int} (hx : InR x) (hh : InR hi) (hxh : x ≤ hi) (ho : rightS out = true) (hl : ∀ r, out.getLast? = some r → r.hi < x) : rightS (addP out x hi) = true ∧ ∀ r, (addP out x hi).getLast? = some r → r.hi = hi := by
  unfold addP
  rcases List.eq_nil_or_concat out with rfl | ⟨init, b, rfl⟩
  · obtain ⟨e1, e2⟩ := mkR_eq hx hh
    refine ⟨?_, fun r hr => by simp at hr; subst hr; exact e2⟩
    show rightW none [mkR x hi] = true
    rw [rightW_cons]
    simp [rightW, okN_iff, e1, e2, hxh]
  · rw [List.concat_eq_append] at *
    have hb := hl b (by simp)
    unfold rightS at ho
    rw [rightW_snoc, Bool.and_eq_true, okN_iff] at ho
    simp only [List.getLast?_append, List.getLast?_singleton, Option.some_or, List.dropLast_concat]
    cases hm : decide (b.hi = x - 1)
    · rw [decide_eq_false_iff_not] at hm
      obtain ⟨e1, e2⟩ := mkR_eq hx hh
      simp only [cond_false]
      refine ⟨?_, fun r hr => by simp at hr; subst hr; exact e2⟩
      unfold rightS
      rw [rightW_snoc, rightW_snoc]
      simp only [Bool.and_eq_true, okN_iff]
      refine ⟨ho, by rw [e1, e2]; exact hxh, fun q hq => ?_⟩
      simp only [List.getLast?_append, List.getLast?_singleton, Option.some_or, Option.some.injEq] at hq
      subst hq
      rw [e1]; omega
    · rw [decide_eq_true_eq] at hm
      obtain ⟨e1, e2⟩ := mkR_eq b.ok.1 hh
      simp only [cond_true]
      refine ⟨?_, fun r hr => by simp at hr; subst hr; exact e2⟩
      unfold rightS
      rw [rightW_snoc]
      simp only [Bool.and_eq_true, okN_iff]
      refine ⟨ho.1, by rw [e1, e2]; omega, fun q hq => by rw [e1]; exact ho.2.2 q hq⟩
theorem hiP_ok {x : Int} {l : List Int} (hx : InR x) (hp : (x :: l).Pairwise (· < ·)) (hl : ∀ y, y ∈ l → InR y) : InR (hiP l) ∧ x ≤ hiP l ∧ ∀ y, l.head? = some y → hiP l < y := by
  unfold InR at hx
  cases l with
  | nil => refine ⟨by unfold hiP InR; decide, by simp only [hiP]; omega, fun y hy => by simp at hy⟩
  | cons y l =>
    have h1 := (List.pairwise_cons.1 hp).1 y List.mem_cons_self
    have h2 := hl y List.mem_cons_self
    unfold InR at h2
    refine ⟨show InR (y - 1) by unfold InR; omega, by simp only [hiP]; omega, fun z hz => by simp at hz; subst hz; simp only [hiP]; omega⟩
theorem pcs_right (a : List Rg) : ∀ (l : List Int) (out : List Rg), l.Pairwise (· < ·) → (∀ y, y ∈ l → InR y) → rightS out = true → (∀ r, out.getLast? = some r → ∀ y, l.head? = some y → r.hi < y) → rightS (pcs a l out) = true
  | [], out, _, _, ho, _ => ho
  | x :: l, out, hp, hr, ho, hl => by
    have hx := hr x List.mem_cons_self
    obtain ⟨q1, q2, q3⟩ := hiP_ok hx hp fun y hy => hr y (List.mem_cons_of_mem _ hy)
    simp only [pcs]
    cases inSet a x
    · refine pcs_right a l out (List.pairwise_cons.1 hp).2 (fun y hy => hr y (List.mem_cons_of_mem _ hy)) ho fun r hrr y hy => ?_
      have h1 := hl r hrr x rfl
      have h2 := (List.pairwise_cons.1 hp).1 y (List.mem_of_mem_head? hy)
      omega
    · obtain ⟨k1, k2⟩ := addP_right hx q1 q2 ho fun r hrr => hl r hrr x rfl
      refine pcs_right a l _ (List.pairwise_cons.1 hp).2 (fun y hy => hr y (List.mem_cons_of_mem _ hy)) k1 fun r hrr y hy => ?_
      rw [k2 r hrr]; exact q3 y hy
theorem refN_right (a : List Rg) : rightS (refN a) = true := by
  have h := Rise.starts a rise_base
  exact pcs_right a _ [] h.2.1 h.2.2 rfl fun r hr => by simp at hr

theorem right_pw : ∀ (s : List Rg) (p : Option Rg), rightW p s = true → (∀ x, x ∈ s → x.lo ≤ x.hi) ∧ s.Pairwise (fun q r => q.hi + 1 < r.lo) ∧ ∀ q, p = some q → ∀ x, x ∈ s → q.hi + 1 < x.lo
  | [], p, _ => ⟨fun x hx => by simp at hx, List.Pairwise.nil, fun q _ x hx => by simp at hx⟩
  | a :: s, p, h => by
    rw [rightW_cons, Bool.and_eq_true, okN_iff] at h
    obtain ⟨h1, h2, h3⟩ := right_pw s (some a) h.2
    have h3 := h3 a rfl
    refine ⟨fun x hx => ?_, List.pairwise_cons.2 ⟨h3, h2⟩, fun q hq x hx => ?_⟩
    · rcases List.mem_cons.1 hx with rfl | hx
      · exact h.1.1
      · exact h1 x hx
    · have h4 := h.1.2 q hq
      rcases List.mem_cons.1 hx with rfl | hx
      · exact h4
      · have := h3 x hx; have := h.1.1; omega
def fl : List Rg → List Int
  | [] => []
  | x :: s => x.lo :: (if x.hi < 9223372036854775807 then (x.hi + 1) :: fl s else fl s)
theorem place_end {n : Int} : ∀ {l : List Int}, (∀ y, y ∈ l → y < n) → placeT n l = l ++ [n]
  | [], _ => rfl
  | a :: l, h => by
    unfold placeT
    rw [if_pos (h a List.mem_cons_self), place_end fun y hy => h y (List.mem_cons_of_mem _ hy)]; rfl
theorem starts_fl : ∀ (s : List Rg) (l : List Int), (∀ x, x ∈ s → x.lo ≤ x.hi) → s.Pairwise (fun q r => q.hi + 1 < r.lo) → (∀ y, y ∈ l → ∀ x, x ∈ s → y < x.lo) → startsT l s = l ++ fl s
  | [], l, _, _, _ => by simp [startsT, fl]
  | x :: s, l, h1, h2, h3 => by
    have hx := h1 x List.mem_cons_self
    obtain ⟨p1, p2⟩ := List.pairwise_cons.1 h2
    show startsT (startT l x) s = _
    have e1 : placeT x.lo l = l ++ [x.lo] := place_end fun y hy => h3 y hy x List.mem_cons_self
    unfold startT
    rw [e1, decide_eq_true hx, cond_true]
    by_cases hm : x.hi < 9223372036854775807
    · rw [decide_eq_true hm, cond_true, place_end (n := x.hi + 1) (l := l ++ [x.lo]) (fun y hy => by
        rcases List.mem_append.1 hy with hy | hy
        · have := h3 y hy x List.mem_cons_self; omega
        · simp at hy; omega)]
      rw [starts_fl s _ (fun y hy => h1 y (List.mem_cons_of_mem _ hy)) p2 fun y hy z hz => by
        have := p1 z hz
        rcases List.mem_append.1 hy with hy | hy
        · rcases List.mem_append.1 hy with hy | hy
          · exact h3 y hy z (List.mem_cons_of_mem _ hz)
          · simp at hy; omega
        · simp at hy; omega]
      simp [fl, hm]
    · rw [decide_eq_false hm, cond_false]
      have : s = [] := by
        cases s with
        | nil => rfl
        | cons z s => have := p1 z List.mem_cons_self; have := z.ok.1; unfold InR at this; omega
      subst this
      simp [startsT, fl, hm]
theorem inSet_iff {s : List Rg} {n : Int} : inSet s n = true ↔ ∃ x, x ∈ s ∧ x.lo ≤ n ∧ n ≤ x.hi := by simp [inSet]
theorem inSet_no {s : List Rg} {n : Int} : inSet s n = false ↔ ∀ x, x ∈ s → ¬ (x.lo ≤ n ∧ n ≤ x.hi) := by
  rw [← Bool.not_eq_true, inSet_iff]; simp
theorem mkR_self (x : Rg) : mkR x.lo x.hi = x := by unfold mkR; rw [dif_pos x.ok]
theorem pcs_fl (s : List Rg) (h1 : ∀ x, x ∈ s → x.lo ≤ x.hi) (h2 : s.Pairwise (fun q r => q.hi + 1 < r.lo)) : ∀ (s2 pre : List Rg), pre ++ s2 = s → pcs s (fl s2) pre = s
  | [], pre, h => by simpa [fl, pcs] using h
  | x :: s2, pre, h => by
    have hxm : x ∈ s := by rw [← h]; simp
    have hx := h1 x hxm
    have hpw := h2
    rw [← h, List.pairwise_append] at hpw
    obtain ⟨w1, w2, w3⟩ := hpw
    obtain ⟨w4, w5⟩ := List.pairwise_cons.1 w2
    have hin : inSet s x.lo = true := inSet_iff.2 ⟨x, hxm, Int.le_refl _, hx⟩
    have hadd : addP pre x.lo x.hi = pre ++ [x] := by
      unfold addP
      rcases List.eq_nil_or_concat pre with rfl | ⟨init, b, rfl⟩
      · simp [mkR_self]
      · rw [List.concat_eq_append] at *
        have := w3 b (by simp) x List.mem_cons_self
        simp only [List.getLast?_append, List.getLast?_singleton, Option.some_or]
        rw [decide_eq_false (by omega), cond_false, mkR_self]
    unfold fl
    by_cases hm : x.hi < 9223372036854775807
    · rw [if_pos hm]
      have hno : inSet s (x.hi + 1) = false := inSet_no.2 fun r hr => by
        rw [← h] at hr
        rcases List.mem_append.1 hr with hr | hr
        · have := w3 r hr x List.mem_cons_self; omega
        · rcases List.mem_cons.1 hr with rfl | hr
          · omega
          · have := w4 r hr; omega
      simp only [pcs, hin, hno, cond_true, cond_false, hiP]
      rw [show x.hi + 1 - 1 = x.hi by omega, hadd]
      exact pcs_fl s h1 h2 s2 (pre ++ [x]) (by rw [← h]; simp)
    · rw [if_neg hm]
      have hx2 := x.ok.2
      unfold InR at hx2
      have hs2 : s2 = [] := by
        cases s2 with
        | nil => rfl
        | cons z s2 => have := w4 z List.mem_cons_self; have := z.ok.1; unfold InR at this; omega
      subst hs2
      simp only [fl, pcs, hin, cond_true, hiP]
      rw [show (9223372036854775807 : Int) = x.hi by omega, hadd]
      exact h
theorem refN_self {s : List Rg} (h : rightS s = true) : refN s = s := by
  obtain ⟨h1, h2, _⟩ := right_pw s none h
  unfold refN
  cases s with
  | nil => rfl
  | cons x s =>
    obtain ⟨p1, p2⟩ := List.pairwise_cons.1 h2
    have hx := h1 x List.mem_cons_self
    have hxr := x.ok.1
    unfold InR at hxr
    by_cases hm : x.lo = -9223372036854775808
    · have e : startsT base (x :: s) = fl (x :: s) := by
        show startsT (startT base x) s = _
        have e1 : placeT x.lo base = base := by rw [hm]; rfl
        unfold startT
        rw [e1, decide_eq_true hx, cond_true]
        by_cases hM : x.hi < 9223372036854775807
        · rw [decide_eq_true hM, cond_true, place_end (n := x.hi + 1) (l := base) (fun y hy => by simp [base] at hy; omega)]
          rw [starts_fl s _ (fun y hy => h1 y (List.mem_cons_of_mem _ hy)) p2 fun y hy z hz => by
            have := p1 z hz
            rcases List.mem_append.1 hy with hy | hy
            · simp [base] at hy; omega
            · simp at hy; omega]
          simp [fl, hM, base, hm]
        · rw [decide_eq_false hM, cond_false]
          have : s = [] := by
            cases s with
            | nil => rfl
            | cons z s => have := p1 z List.mem_cons_self; have := z.ok.1; unfold InR at this; omega
          subst this
          simp [startsT, fl, hM, base, hm]
      rw [e]
      exact pcs_fl _ h1 h2 (x :: s) [] rfl
    · have e : startsT base (x :: s) = base ++ fl (x :: s) := starts_fl _ _ h1 h2 fun y hy z hz => by
        simp [base] at hy
        rcases List.mem_cons.1 hz with rfl | hz
        · omega
        · have := p1 z hz; omega
      rw [e]
      have hno : inSet (x :: s) (-9223372036854775808) = false := inSet_no.2 fun r hr => by
        rcases List.mem_cons.1 hr with rfl | hr
        · omega
        · have := p1 r hr; omega
      show pcs (x :: s) (-9223372036854775808 :: fl (x :: s)) [] = _
      rw [pcs, hno, cond_false]
      exact pcs_fl _ h1 h2 (x :: s) [] rfl
theorem rightS_iff {s : List Rg} : rightS s = true ↔ s = refN s := ⟨fun h => (refN_self h).symm, fun h => by rw [h]; exact refN_right _⟩

def ac96 : ACode := (.seq (.region [oq 2 (.move (ci 0)), oq 3 (.move (ci 0)), oq 4 (.move (cb false))]) (.seq (.region [oq 6 (qm 0), oq 7 (.call (.func 107) [((tq 6), false)]), oq 5 (qm 7)]) (.seq (.seq (.region [oq 8 (qm 5), oq 9 (qn 8), oq 10 (.bin .eql (tq 9) (ci 0))]) (.cond (tq 10) (.seq (.region [oq 2 (.move (ci 0)), oq 3 (.move (ci 0)), oq 4 (.move (cb false))]) .ret) .skip)) (.seq (.draw [oq 11 (qm 5), oq 12 (.indexAddr 2 (tq 11) (ci 0)), oq 13 (qf 0 12), oq 14 (ql 13), oq 15 (qm 5), oq 16 (qm 5), oq 17 (qn 16), oq 18 (.bin .sub (tq 17) (ci 1)), oq 19 (qx 2 15 18), oq 20 (qf 1 19), oq 21 (ql 20), oq 2 (qm 14), oq 3 (qm 21), oq 4 (.move (cb true))]) .ret))))
theorem c96 : cfn E0.P [] Tryz.f96 = some (ac96, [(.tmp 2), (.tmp 3), (.tmp 4)], 22) := by kernel_rfl
def ac97 : ACode := (.seq (.region [oq 2 (.move (cb false))]) (.seq (.region [oq 3 (qm 0), oq 4 (qm 0), oq 5 (.call (.func 107) [((tq 4), false)]), oq 6 (.call (.func 108) [((tq 3), false), ((tq 5), false)]), oq 2 (qm 6)]) .ret))
theorem c97 : cfn E0.P [] Tryz.f97 = some (ac97, [(.tmp 2)], 7) := by kernel_rfl
def ac107 : ACode := (.seq (.region [oq 2 (.move (.const (.slice none 0 0)))]) (.seq (.region [oq 3 (qm 0), oq 4 (.call (.func 122) [((tq 3), false), ((.const (.slice none 0 0)), false), ((ci 0), false)]), oq 2 (qm 4)]) .ret))
theorem c107 : cfn E0.P [] Tryz.f107 = some (ac107, [(.tmp 2)], 5) := by kernel_rfl
def ac108 : ACode := (.seq (.region [oq 4 (.move (cb false))]) (.seq (.seq (.region [oq 6 (qm 0), oq 7 (qn 6), oq 8 (qm 1), oq 9 (qn 8), oq 10 (.bin .neq (tq 7) (tq 9))]) (.cond (tq 10) (.seq (.region [oq 4 (.move (cb false))]) .ret) .skip)) (.seq (.seq (.region [oq 5 (.move (ci 0))]) (.block 0 (.loop (.seq (.seq (.region [oq 11 (qm 5), oq 12 (qm 0), oq 13 (qn 12), oq 14 (.bin .lss (tq 11) (tq 13))]) (.cond (tq 14) .skip (.exit 0))) (.seq (.block 1 (.seq (.draw [oq 17 (qm 0), oq 18 (qm 5), oq 19 (qx 2 17 18), oq 20 (qf 0 19), oq 21 (ql 20), oq 22 (qm 1), oq 23 (qm 5), oq 24 (qx 2 22 23), oq 25 (qf 0 24), oq 26 (ql 25), oq 27 (.bin .neq (tq 21) (tq 26)), oq 28 (qm 27), og 29 (qm 0) 28 false, og 30 (qm 5) 28 false, og 31 (qx 2 29 30) 28 false, og 32 (qf 1 31) 28 false, og 33 (ql 32) 28 false, og 34 (qm 1) 28 false, og 35 (qm 5) 28 false, og 36 (qx 2 34 35) 28 false, og 37 (qf 1 36) 28 false, og 38 (ql 37) 28 false, og 39 (.bin .neq (tq 33) (tq 38)) 28 false, oq 40 (.pick (tq 28) (cb true) (tq 39))]) (.cond (tq 40) (.seq (.region [oq 4 (.move (cb false))]) .ret) .skip))) (.region [oq 15 (qm 5), oq 16 (.bin .add (tq 15) (ci 1)), oq 5 (qm 16)])))))) (.seq (.region [oq 4 (.move (cb true))]) .ret))))
theorem c108 : cfn E0.P [] Tryz.f108 = some (ac108, [(.tmp 4)], 41) := by kernel_rfl

theorem rnorm_ev (a : List Rg) (hl : a.length < 2 ^ 38) (h : List AObj) : EvR E0 107 [rgl a] h (rgl (refN a)) := by
  refine ev_of (fn := Tryz.f107) (hs := []) Tryz.func107 c107 (by simp) fun hcl => ?_
  have hc := fun h => of_ev a hl h
  simp only [ac107, awH, ↓awD, awP, Nat.reduceLeDiff, Nat.reduceEqDiff, Nat.reduceAdd, Int.reduceLT, Int.reduceLE, Int.reduceEq]
  ((first | refine EvF.ret (hc _) ?_ | refine EvRF.ret (hc _) ?_); simp only [aw21, aw21, awH, ↓awD, awP, Nat.reduceLeDiff, Nat.reduceEqDiff, Nat.reduceAdd, Int.reduceLT, Int.reduceLE, Int.reduceEq])
  exact Fin.end hcl (und_rgs _ _) (by first | rfl | exact (List.append_nil _).symm | (simp only [List.append_assoc]; rfl)) ⟨rfl, rfl⟩
def sameR : List Rg → List Rg → Bool := all2 fun x y => decide (x.lo = y.lo) && decide (x.hi = y.hi)
theorem sameR_iff {a b : List Rg} : sameR a b = true ↔ a = b := by
  unfold sameR
  rw [all2_iff fun x _ y => by
    simp only [Bool.and_eq_true, decide_eq_true_eq]
    constructor
    · rintro ⟨h1, h2⟩; cases x; cases y; simp only at h1 h2; subst h1 h2; rfl
    · rintro rfl; exact ⟨rfl, rfl⟩]
theorem rsame_ev (a b : List Rg) (hl : a.length < 2 ^ 60) (hb : b.length < 2 ^ 60) (h : List AObj) : EvR E0 108 [rgl a, rgl b] h (boolv (sameR a b)) := by
  refine ev_of (fn := Tryz.f108) (hs := []) Tryz.func108 c108 (by simp) fun hcl => ?_
  cases hlen : decide ((a.length : Int) = (b.length : Int))
  · have hne : a.length ≠ b.length := by rw [decide_eq_false_iff_not] at hlen; omega
    have : sameR a b = false := all2_len hne
    rw [this]
    simp only [ac108, hlen, awH, ↓awD, awP, Nat.reduceLeDiff, Nat.reduceEqDiff, Nat.reduceAdd, Int.reduceLT, Int.reduceLE, Int.reduceEq]
    exact Fin.end hcl rfl (by first | rfl | exact (List.append_nil _).symm | (simp only [List.append_assoc]; rfl)) ⟨rfl, rfl⟩
  · have hle : a.length = b.length := by rw [decide_eq_true_eq] at hlen; omega
    generalize hR : sameR a b = R
    simp only [ac108, hlen, awH, ↓awD, awP, Nat.reduceLeDiff, Nat.reduceEqDiff, Nat.reduceAdd, Int.reduceLT, Int.reduceLE, Int.reduceEq]
    refine LoopF.list a hl (γ := Unit) (fun i _ => ⟨[(0, rgl a), (1, rgl b), (5, i64 i)], h⟩) (fun i _ => sameR (a.drop i) (b.drop i) = R) () (by simpa using hR) (weak_of rfl (by simp [look])) ?_ ?_
    · rintro i x _ hx hv hi e1 w3
      obtain ⟨y, hy⟩ : ∃ y, b[i]? = some y := ⟨_, List.getElem?_eq_getElem (by omega)⟩
      rw [drop_get hx, drop_get hy] at hv
      simp only [sameR, all2] at hv
      have hgx := map_get rgv a i x hx
      have hgy := map_get rgv b i y hy
      simp only [e1, w3, awH, ↓awD, awP, Nat.reduceLeDiff, Nat.reduceEqDiff, Nat.reduceAdd, Int.reduceLT, Int.reduceLE, Int.reduceEq]
      cases h1 : decide (x.lo = y.lo)
      · rw [h1] at hv
        simp only [Bool.false_and] at hv
        subst hv
        repeat' (first | ((try refine Need.mk (by first | (first | omega | (simp only [awO] at *; omega) | (simp; omega)) | (constructor <;> (first | omega | (simp only [awO] at *; omega) | (simp; omega)))) ?_); refine Elem.recs hgx (by first | (rw [rgv_eq]; exact ⟨rfl, rfl⟩) | exact ⟨rfl, rfl⟩) ?_; simp only [rgv_eq, w3, h1, aw21, awH, ↓awD, awP, Nat.reduceLeDiff, Nat.reduceEqDiff, Nat.reduceAdd, Int.reduceLT, Int.reduceLE, Int.reduceEq]) | ((try refine Need.mk (by first | (first | omega | (simp only [awO] at *; omega) | (simp; omega)) | (constructor <;> (first | omega | (simp only [awO] at *; omega) | (simp; omega)))) ?_); refine Elem.recs hgy (by first | (rw [rgv_eq]; exact ⟨rfl, rfl⟩) | exact ⟨rfl, rfl⟩) ?_; simp only [rgv_eq, w3, h1, aw21, awH, ↓awD, awP, Nat.reduceLeDiff, Nat.reduceEqDiff, Nat.reduceAdd, Int.reduceLT, Int.reduceLE, Int.reduceEq]))
        exact Fin.end hcl rfl (by first | rfl | exact (List.append_nil _).symm | (simp only [List.append_assoc]; rfl)) ⟨rfl, rfl⟩
      · cases h2 : decide (x.hi = y.hi)
        · rw [h1, h2] at hv
          simp only [Bool.and_false, Bool.false_and] at hv
          subst hv
          repeat' (first | ((try refine Need.mk (by first | (first | omega | (simp only [awO] at *; omega) | (simp; omega)) | (constructor <;> (first | omega | (simp only [awO] at *; omega) | (simp; omega)))) ?_); refine Elem.recs hgx (by first | (rw [rgv_eq]; exact ⟨rfl, rfl⟩) | exact ⟨rfl, rfl⟩) ?_; simp only [rgv_eq, w3, h1, h2, aw21, awH, ↓awD, awP, Nat.reduceLeDiff, Nat.reduceEqDiff, Nat.reduceAdd, Int.reduceLT, Int.reduceLE, Int.reduceEq]) | ((try refine Need.mk (by first | (first | omega | (simp only [awO] at *; omega) | (simp; omega)) | (constructor <;> (first | omega | (simp only [awO] at *; omega) | (simp; omega)))) ?_); refine Elem.recs hgy (by first | (rw [rgv_eq]; exact ⟨rfl, rfl⟩) | exact ⟨rfl, rfl⟩) ?_; simp only [rgv_eq, w3, h1, h2, aw21, awH, ↓awD, awP, Nat.reduceLeDiff, Nat.reduceEqDiff, Nat.reduceAdd, Int.reduceLT, Int.reduceLE, Int.reduceEq]))
          exact Fin.end hcl rfl (by first | rfl | exact (List.append_nil _).symm | (simp only [List.append_assoc]; rfl)) ⟨rfl, rfl⟩
        · rw [h1, h2] at hv
          simp only [Bool.and_self, Bool.true_and] at hv
          repeat' (first | ((try refine Need.mk (by first | (first | omega | (simp only [awO] at *; omega) | (simp; omega)) | (constructor <;> (first | omega | (simp only [awO] at *; omega) | (simp; omega)))) ?_); refine Elem.recs hgx (by first | (rw [rgv_eq]; exact ⟨rfl, rfl⟩) | exact ⟨rfl, rfl⟩) ?_; simp only [rgv_eq, w3, h1, h2, aw21, awH, ↓awD, awP, Nat.reduceLeDiff, Nat.reduceEqDiff, Nat.reduceAdd, Int.reduceLT, Int.reduceLE, Int.reduceEq]) | ((try refine Need.mk (by first | (first | omega | (simp only [awO] at *; omega) | (simp; omega)) | (constructor <;> (first | omega | (simp only [awO] at *; omega) | (simp; omega)))) ?_); refine Elem.recs hgy (by first | (rw [rgv_eq]; exact ⟨rfl, rfl⟩) | exact ⟨rfl, rfl⟩) ?_; simp only [rgv_eq, w3, h1, h2, aw21, awH, ↓awD, awP, Nat.reduceLeDiff, Nat.reduceEqDiff, Nat.reduceAdd, Int.reduceLT, Int.reduceLE, Int.reduceEq]))
          exact ⟨(i + 1, ()), ⟨hi, hv⟩, by simp only; omega, weak_of rfl (by simp [look])⟩
    · rintro _ hv e1
      rw [drop_len, hle, drop_len] at hv
      simp only [sameR, all2] at hv
      subst hv
      simp only [e1, awH, ↓awD, awP, Nat.reduceLeDiff, Nat.reduceEqDiff, Nat.reduceAdd, Int.reduceLT, Int.reduceLE, Int.reduceEq]
      exact Fin.end hcl rfl (by first | rfl | exact (List.append_nil _).symm | (simp only [List.append_assoc]; rfl)) ⟨rfl, rfl⟩
theorem pcs_len (a : List Rg) : ∀ (l : List Int) (out : List Rg), (pcs a l out).length ≤ out.length + l.length
  | [], out => Nat.le_refl _
  | x :: l, out => by
    simp only [pcs, List.length_cons]
    cases inSet a x
    · have := pcs_len a l out; simp only [cond_false]; omega
    · have := pcs_len a l (addP out x (hiP l)); have := addP_len out x (hiP l); simp only [cond_true]; omega
theorem refN_len (a : List Rg) : (refN a).length ≤ 2 * a.length + 1 := by
  have h1 := pcs_len a (startsT base a) []
  have h2 := starts_len a base
  unfold refN
  simp only [base, List.length_nil, List.length_singleton] at h1 h2 ⊢
  omega
theorem rright_ev (a : List Rg) (hl : a.length < 2 ^ 38) (h : List AObj) : EvR E0 97 [rgl a] h (boolv (rightS a)) := by
  have hs : sameR a (refN a) = rightS a := by rw [Bool.eq_iff_iff, sameR_iff, rightS_iff]
  rw [← hs]
  refine ev_of (fn := Tryz.f97) (hs := []) Tryz.func97 c97 (by simp) fun hcl => ?_
  have hn := refN_len a
  have hc := fun h => rnorm_ev a hl h
  have hc2 := fun h => rsame_ev a (refN a) (by omega) (by omega) h
  simp only [ac97, awH, ↓awD, awP, Nat.reduceLeDiff, Nat.reduceEqDiff, Nat.reduceAdd, Int.reduceLT, Int.reduceLE, Int.reduceEq]
  ((first | refine EvF.ret (hc _) ?_ | refine EvRF.ret (hc _) ?_); simp only [aw21, aw21, awH, ↓awD, awP, Nat.reduceLeDiff, Nat.reduceEqDiff, Nat.reduceAdd, Int.reduceLT, Int.reduceLE, Int.reduceEq])
  ((first | refine EvF.ret (hc2 _) ?_ | refine EvRF.ret (hc2 _) ?_); simp only [aw21, aw21, awH, ↓awD, awP, Nat.reduceLeDiff, Nat.reduceEqDiff, Nat.reduceAdd, Int.reduceLT, Int.reduceLE, Int.reduceEq])
  exact Fin.end hcl rfl (by first | rfl | exact (List.append_nil _).symm | (simp only [List.append_assoc]; rfl)) ⟨rfl, rfl⟩
def eLo (l : List Rg) : Int := match l.head? with | some r => r.lo | none => 0
def eHi (l : List Rg) : Int := match l.getLast? with | some r => r.hi | none => 0
theorem rends_ev (a : List Rg) (hl : a.length < 2 ^ 38) (h : List AObj) : EvR E0 96 [rgl a] h (.tup [i64 (eLo (refN a)), i64 (eHi (refN a)), boolv (decide (0 < (refN a).length))]) := by
  refine ev_of (fn := Tryz.f96) (hs := []) Tryz.func96 c96 (by simp) fun hcl => ?_
  have hn := refN_len a
  have hc := fun h => rnorm_ev a hl h
  generalize refN a = n at *
  simp only [ac96, awH, ↓awD, awP, Nat.reduceLeDiff, Nat.reduceEqDiff, Nat.reduceAdd, Int.reduceLT, Int.reduceLE, Int.reduceEq]
  ((first | refine EvF.ret (hc _) ?_ | refine EvRF.ret (hc _) ?_); simp only [aw21, aw21, awH, ↓awD, awP, Nat.reduceLeDiff, Nat.reduceEqDiff, Nat.reduceAdd, Int.reduceLT, Int.reduceLE, Int.reduceEq])
  rcases List.eq_nil_or_concat n with rfl | ⟨init, b, rfl⟩
  · simp only [List.length_nil, awH, ↓awD, awP, Nat.reduceLeDiff, Nat.reduceEqDiff, Nat.reduceAdd, Int.reduceLT, Int.reduceLE, Int.reduceEq]
    exact Fin.end hcl rfl (by first | rfl | exact (List.append_nil _).symm | (simp only [List.append_assoc]; rfl)) ⟨rfl, rfl⟩
  · rw [List.concat_eq_append] at *
    have hbm : (init ++ [b]).length = init.length + 1 := by simp
    obtain ⟨f, hf⟩ : ∃ f, (init ++ [b]).head? = some f := by cases init <;> exact ⟨_, rfl⟩
    have hf0 : (init ++ [b])[0]? = some f := by rw [← List.head?_eq_getElem?]; exact hf
    have hg0 := map_get rgv _ 0 f hf0
    have hgl := map_get rgv (init ++ [b]) init.length b (by simp)
    have wk : IntKind.i64.wrap (((init.length + 1 : Nat) : Int) - 1) = ((init.length : Nat) : Int) := by rw [wrap_i64] <;> omega
    have d0 : decide (((init.length + 1 : Nat) : Int) = 0) = false := by rw [decide_eq_false_iff_not]; omega
    have e1 : eLo (init ++ [b]) = f.lo := by simp only [eLo, hf]
    have e2 : eHi (init ++ [b]) = b.hi := by simp [eHi]
    have e3 : decide (0 < (init ++ [b]).length) = true := by simp
    rw [e1, e2, e3]
    simp only [hbm, wk, d0, awH, ↓awD, awP, Nat.reduceLeDiff, Nat.reduceEqDiff, Nat.reduceAdd, Int.reduceLT, Int.reduceLE, Int.reduceEq]
    repeat' (first | ((try refine Need.mk (by first | (first | omega | (simp only [awO] at *; omega) | (simp; omega)) | (constructor <;> (first | omega | (simp only [awO] at *; omega) | (simp; omega)))) ?_); refine Elem.recs hg0 (by first | (rw [rgv_eq]; exact ⟨rfl, rfl⟩) | exact ⟨rfl, rfl⟩) ?_; simp only [rgv_eq, hbm, wk, aw21, awH, ↓awD, awP, Nat.reduceLeDiff, Nat.reduceEqDiff, Nat.reduceAdd, Int.reduceLT, Int.reduceLE, Int.reduceEq]) | ((try refine Need.mk (by first | (first | omega | (simp only [awO] at *; omega) | (simp; omega)) | (constructor <;> (first | omega | (simp only [awO] at *; omega) | (simp; omega)))) ?_); refine Elem.recs hgl (by first | (rw [rgv_eq]; exact ⟨rfl, rfl⟩) | exact ⟨rfl, rfl⟩) ?_; simp only [rgv_eq, hbm, wk, aw21, awH, ↓awD, awP, Nat.reduceLeDiff, Nat.reduceEqDiff, Nat.reduceAdd, Int.reduceLT, Int.reduceLE, Int.reduceEq]))
    exact Fin.end hcl rfl (by first | rfl | exact (List.append_nil _).symm | (simp only [List.append_assoc]; rfl)) ⟨rfl, rfl⟩

def ac84 : ACode := (.seq (.region [oq 1 (.box (tq 0)), oq 2 (.move (cb false))]) (.seq (.seq (.region [oq 6 (qf 0 1), oq 7 (ql 6), oq 8 (.bin .neq (tq 7) (ci 2)), oq 9 (qm 8), og 10 (qf 0 1) 9 true, og 11 (ql 10) 9 true, og 12 (.bin .neq (tq 11) (ci 5)) 9 true, oq 13 (.pick (tq 9) (tq 12) (cb false)), oq 14 (qm 13), og 15 (qf 0 1) 14 true, og 16 (ql 15) 14 true, og 17 (.bin .neq (tq 16) (ci 6)) 14 true, oq 18 (.pick (tq 14) (tq 17) (cb false)), oq 19 (qm 18), og 20 (qf 0 1) 19 true, og 21 (ql 20) 19 true, og 22 (.bin .neq (tq 21) (ci 7)) 19 true, oq 23 (.pick (tq 19) (tq 22) (cb false)), oq 24 (qm 23), og 25 (qf 0 1) 24 true, og 26 (ql 25) 24 true, og 27 (.bin .neq (tq 26) (ci 9)) 24 true, oq 28 (.pick (tq 24) (tq 27) (cb false))]) (.cond (tq 28) (.seq (.region [oq 29 (qf 2 1), oq 30 (ql 29), oq 31 (qn 30), oq 32 (.bin .eql (tq 31) (ci 0)), oq 33 (qm 32), og 34 (qf 3 1) 33 true, og 35 (ql 34) 33 true, og 36 (.bin .eql (tq 35) (ci 0)) 33 true, oq 37 (.pick (tq 33) (tq 36) (cb false)), oq 38 (qm 37), og 39 (qf 4 1) 38 true, og 40 (ql 39) 38 true, og 41 (.bin .eql (tq 40) (ci 0)) 38 true, oq 42 (.pick (tq 38) (tq 41) (cb false)), oq 2 (qm 42)]) .ret) .skip)) (.seq (.region [oq 44 (qf 2 1), oq 45 (ql 44), oq 46 (.call (.func 96) [((tq 45), false)]), oq 43 (qm 46), oq 47 (.extract (tq 43) 0), oq 48 (.extract (tq 43) 1), oq 49 (.extract (tq 43) 2), oq 3 (qm 47), oq 4 (qm 48), oq 5 (qm 49)]) (.seq (.region [oq 50 (qm 5), oq 51 (qm 50), og 52 (qf 2 1) 51 true, og 53 (ql 52) 51 true, og 54 (.call (.func 97) [((tq 53), false)]) 51 true, oq 55 (.pick (tq 51) (tq 54) (cb false)), oq 56 (qm 55), og 57 (qm 3) 56 true, og 58 (qf 3 1) 56 true, og 59 (ql 58) 56 true, og 60 (.bin .eql (tq 57) (tq 59)) 56 true, oq 61 (.pick (tq 56) (tq 60) (cb false)), oq 62 (qm 61), og 63 (qm 4) 62 true, og 64 (qf 4 1) 62 true, og 65 (ql 64) 62 true, og 66 (.bin .eql (tq 63) (tq 65)) 62 true, oq 67 (.pick (tq 62) (tq 66) (cb false)), oq 68 (qm 67), og 69 (qf 0 1) 68 true, og 70 (ql 69) 68 true, og 71 (.bin .eql (tq 70) (ci 2)) 68 true, og 72 (qm 71) 68 true, og 73 (qm 3) 72 false, og 74 (.bin .geq (tq 73) (ci 0)) 72 false, og 75 (.pick (tq 72) (cb true) (tq 74)) 68 true, oq 76 (.pick (tq 68) (tq 75) (cb false)), oq 2 (qm 76)]) .ret))))
theorem c84 : cfn E0.P [] Tryz.f84 = some (ac84, [(.tmp 2)], 77) := by kernel_rfl
def ac85 : ACode := (.seq (.region [oq 2 (.move (cb false))]) (.seq (.seq (.region [oq 3 (.move (ci 0))]) (.block 0 (.loop (.seq (.seq (.region [oq 4 (qm 3), oq 5 (qm 0), oq 6 (.len true (tq 5)), oq 7 (.bin .lss (tq 4) (tq 6))]) (.cond (tq 7) .skip (.exit 0))) (.seq (.block 1 (.seq (.draw [oq 10 (qm 0), oq 11 (qm 3), oq 12 (.indexS (tq 10) (tq 11)), oq 13 (.bin .geq (tq 12) (.const (.int .u8 128))), oq 14 (qm 13), og 15 (qm 3) 14 false, og 16 (.bin .gtr (tq 15) (ci 0)) 14 false, og 17 (qm 16) 14 false, og 18 (qm 0) 17 true, og 19 (qm 3) 17 true, og 20 (.bin .sub (tq 19) (ci 1)) 17 true, og 21 (.indexS (tq 18) (tq 20)) 17 true, og 22 (qm 0) 17 true, og 23 (qm 3) 17 true, og 24 (.indexS (tq 22) (tq 23)) 17 true, og 25 (.bin .geq (tq 21) (tq 24)) 17 true, og 26 (.pick (tq 17) (tq 25) (cb false)) 14 false, oq 27 (.pick (tq 14) (cb true) (tq 26))]) (.cond (tq 27) (.seq (.region [oq 2 (.move (cb false))]) .ret) .skip))) (.region [oq 8 (qm 3), oq 9 (.bin .add (tq 8) (ci 1)), oq 3 (qm 9)])))))) (.seq (.region [oq 2 (.move (cb true))]) .ret)))
theorem c85 : cfn E0.P [] Tryz.f85 = some (ac85, [(.tmp 2)], 28) := by kernel_rfl

theorem ralpha_ev (s : ByteArray) (hs : s.size < 2 ^ 60) (h : List AObj) : EvR E0 85 [str s] h (boolv (alphaT s)) := by
  refine ev_of (fn := Tryz.f85) (hs := []) Tryz.func85 c85 (by simp) fun hcl => ?_
  have hsz : s.size = s.data.toList.length := by simp
  unfold alphaT
  generalize hR : alphaW none s.data.toList = R
  simp only [ac85, awH, ↓awD, awP, Nat.reduceLeDiff, Nat.reduceEqDiff, Nat.reduceAdd, Int.reduceLT, Int.reduceLE, Int.reduceEq]
  refine LoopF.list s.data.toList (by omega) (γ := Unit) (fun i _ => ⟨[(0, str s), (3, i64 i)], h⟩) (fun i _ => alphaW (prevB s.data.toList i) (s.data.toList.drop i) = R) () (by simpa [prevB] using hR) (weak_of rfl (by simp [look])) ?_ ?_
  · rintro i a _ ha hv hi e1 w3
    rw [drop_get ha] at hv
    simp only [alphaW] at hv
    rw [← hsz] at hi e1
    have hnx : prevB s.data.toList (i + 1) = some a := ha
    have d1 : decide ((128 : Int) ≤ (a.toNat : Int)) = !decide (a.toNat < 128) := by rw [Bool.eq_iff_iff]; simp; omega
    have w00 : IntKind.i64.wrap 1 = 1 := wrap_i64 1 (by omega) (by omega)
    cases i with
    | zero =>
      simp only [prevB] at hv
      have e0 : decide ((0 : Int) < (s.size : Int)) = true := by simp; omega
      simp only [e0, e1, w3, Int.cast_ofNat_Int, awH, ↓awD, awP, Nat.reduceLeDiff, Nat.reduceEqDiff, Nat.reduceAdd, Int.reduceLT, Int.reduceLE, Int.reduceEq]
      repeat' (first | ((first | refine Need.mk (by first | (constructor <;> (first | omega | (simp only [awO] at *; omega) | (simp; omega))) | (first | omega | (simp only [awO] at *; omega) | (simp; omega))) (Byte.at ha ?_) | refine Byte.at ha ?_); simp only [d1, w3, szl, awH, ↓awD, awP, Nat.reduceLeDiff, Nat.reduceEqDiff, Nat.reduceAdd, Int.reduceLT, Int.reduceLE, Int.reduceEq]) | (refine Need.mk (by first | decide | (first | omega | (simp only [awO] at *; omega) | (simp; omega)) | (constructor <;> (first | omega | (simp only [awO] at *; omega) | (simp; omega)))) ?_; simp only [w3, szl, awH, ↓awD, awP, Nat.reduceLeDiff, Nat.reduceEqDiff, Nat.reduceAdd, Int.reduceLT, Int.reduceLE, Int.reduceEq]) | (refine BrF.mk (fun hb => ?_) (fun hb => ?_) <;> (try rw [hb]) <;> simp only [d1, w3, aw21, awH, ↓awD, awP, Nat.reduceLeDiff, Nat.reduceEqDiff, Nat.reduceAdd, Int.reduceLT, Int.reduceLE, Int.reduceEq]))
      all_goals (simp only [*, Bool.not_true, Bool.not_false, Bool.true_and, Bool.false_and] at hv)
      all_goals first
        | exact ⟨(0 + 1, ()), ⟨by simp only; omega, by simp only [hnx]; exact hv⟩, by simp only; omega, weak_of rfl (by simp [look, w00])⟩
        | (subst hv; exact Fin.end hcl rfl (by first | rfl | exact (List.append_nil _).symm | (simp only [List.append_assoc]; rfl)) ⟨rfl, rfl⟩)
    | succ j =>
      obtain ⟨q, hq⟩ : ∃ q, s.data.toList[j]? = some q := ⟨_, List.getElem?_eq_getElem (by omega)⟩
      have hpv : prevB s.data.toList (j + 1) = some q := hq
      rw [hpv] at hv
      simp only at hv
      have d2 : decide ((a.toNat : Int) ≤ (q.toNat : Int)) = !decide (q.toNat < a.toNat) := by rw [Bool.eq_iff_iff]; simp
      have d3 : decide ((0 : Int) < ((j + 1 : Nat) : Int)) = true := by simp
      have w1 : IntKind.i64.wrap (((j + 1 : Nat) : Int) - 1) = ((j : Nat) : Int) := by rw [wrap_i64] <;> omega
      simp only [e1, w3, d1, d2, d3, w1, awH, ↓awD, awP, Nat.reduceLeDiff, Nat.reduceEqDiff, Nat.reduceAdd, Int.reduceLT, Int.reduceLE, Int.reduceEq]
      repeat' (first | ((first | refine Need.mk (by first | (constructor <;> (first | omega | (simp only [awO] at *; omega) | (simp; omega))) | (first | omega | (simp only [awO] at *; omega) | (simp; omega))) (Byte.at ha ?_) | refine Byte.at ha ?_); simp only [d1, d2, d3, w1, w3, szl, awH, ↓awD, awP, Nat.reduceLeDiff, Nat.reduceEqDiff, Nat.reduceAdd, Int.reduceLT, Int.reduceLE, Int.reduceEq]) | ((first | refine Need.mk (by first | (constructor <;> (first | omega | (simp only [awO] at *; omega) | (simp; omega))) | (first | omega | (simp only [awO] at *; omega) | (simp; omega))) (Byte.at hq ?_) | refine Byte.at hq ?_); simp only [d1, d2, d3, w1, w3, szl, awH, ↓awD, awP, Nat.reduceLeDiff, Nat.reduceEqDiff, Nat.reduceAdd, Int.reduceLT, Int.reduceLE, Int.reduceEq]) | (refine Need.mk (by first | decide | (first | omega | (simp only [awO] at *; omega) | (simp; omega)) | (constructor <;> (first | omega | (simp only [awO] at *; omega) | (simp; omega)))) ?_; simp only [w3, szl, awH, ↓awD, awP, Nat.reduceLeDiff, Nat.reduceEqDiff, Nat.reduceAdd, Int.reduceLT, Int.reduceLE, Int.reduceEq]) | (refine BrF.mk (fun hb => ?_) (fun hb => ?_) <;> (try rw [hb]) <;> simp only [d1, d2, d3, w1, w3, aw21, awH, ↓awD, awP, Nat.reduceLeDiff, Nat.reduceEqDiff, Nat.reduceAdd, Int.reduceLT, Int.reduceLE, Int.reduceEq]))
      all_goals (simp only [*, Bool.not_true, Bool.not_false, Bool.true_and, Bool.false_and] at hv)
      all_goals first
        | exact ⟨(j + 1 + 1, ()), ⟨by simp only; omega, by simp only [hnx]; exact hv⟩, by simp only; omega, weak_of rfl (by simp [look, w00])⟩
        | (subst hv; exact Fin.end hcl rfl (by first | rfl | exact (List.append_nil _).symm | (simp only [List.append_assoc]; rfl)) ⟨rfl, rfl⟩)
  · rintro _ hv e1
    rw [drop_len] at hv
    simp only [alphaW] at hv
    subst hv
    have e2 : decide ((s.data.toList.length : Int) < s.size) = false := by rw [hsz]; simp
    simp only [e2, awH, ↓awD, awP, Nat.reduceLeDiff, Nat.reduceEqDiff, Nat.reduceAdd, Int.reduceLT, Int.reduceLE, Int.reduceEq]
    exact Fin.end hcl rfl (by first | rfl | exact (List.append_nil _).symm | (simp only [List.append_assoc]; rfl)) ⟨rfl, rfl⟩

theorem right_ends {s : List Rg} (h : rightS s = true) : (s = [] → someT s = false) ∧ (s ≠ [] → loT s = eLo s ∧ hiT s = eHi s ∧ someT s = true) := by
  obtain ⟨h1, h2, _⟩ := right_pw s none h
  refine ⟨fun he => by subst he; rfl, fun hne => ?_⟩
  have hf : s.filter (·.some) = s := List.filter_eq_self.2 fun x hx => by have := h1 x hx; simp only [Rg.some, Bool.not_eq_true', decide_eq_false_iff_not]; omega
  obtain ⟨a, ha⟩ : ∃ a, s.head? = some a := by cases s with | nil => exact absurd rfl hne | cons a s => exact ⟨a, rfl⟩
  obtain ⟨init, b, hs⟩ : ∃ init b, s = init ++ [b] := by
    rcases List.eq_nil_or_concat s with h | ⟨i, b, h⟩
    · exact absurd h hne
    · exact ⟨i, b, by simpa using h⟩
  have hb : s.getLast? = some b := by rw [hs]; simp
  have hpw : s.Pairwise loLe := h2.imp_of_mem fun {q r} hq hr hqr => by have := h1 q hq; unfold loLe; omega
  have hn : Nrm s s := ⟨fun h => h, fun a ha => ⟨a, ha, rfl⟩, fun _ => ⟨b, hb, ⟨b, by rw [hs]; simp, rfl⟩, fun x hx => by
    rw [hs] at hx h2
    rcases List.mem_append.1 hx with hx | hx
    · have h3 := (List.pairwise_append.1 h2).2.2 x hx b (by simp)
      have := h1 b (by rw [hs]; simp)
      omega
    · rw [List.mem_singleton.1 hx]; exact Int.le_refl _⟩⟩
  obtain ⟨q1, q2, q3⟩ := ends_cons (l := s) (l' := s) (out := s) (by rw [hf]) hpw hn ha hb
  exact ⟨by rw [q1]; simp only [eLo, ha], by rw [q2]; simp only [eHi, hb], q3⟩
def rletsT (r : Dsc) : Bool := bif sizesT r.kind then decide (0 < (refN r.set).length) && (rightS r.set && (decide (eLo (refN r.set) = r.lo) && (decide (eHi (refN r.set) = r.hi) && (decide (r.kind = 2) || decide (0 ≤ eLo (refN r.set)))))) else decide (r.set.length = 0) && (decide (r.lo = 0) && decide (r.hi = 0))
theorem rlets_eq (r : Dsc) : rletsT r = letsT r := by
  unfold rletsT letsT
  cases sizesT r.kind
  · rfl
  · simp only [cond_true]
    cases hr : rightS r.set
    · simp
    · rw [refN_self hr]
      obtain ⟨h1, h2⟩ := right_ends hr
      by_cases hs : r.set = []
      · rw [h1 hs, hs]; simp
      · obtain ⟨q1, q2, q3⟩ := h2 hs
        rw [q1, q2, q3, decide_eq_true (List.length_pos_iff.2 hs)]
set_option maxHeartbeats 4000000 in
theorem rsized_ev (r : Dsc) (hr : r.set.length < 2 ^ 38) (h : List AObj) : EvR E0 84 [dscv r] h (boolv (letsT r)) := by
  rw [← rlets_eq]
  refine ev_of (fn := Tryz.f84) (hs := []) Tryz.func84 c84 (by simp) fun hcl => ?_
  have hen := fun h => rends_ev r.set hr h
  have hri := fun h => rright_ev r.set hr h
  have g0 : ∀ J : List AObj, (h ++ [AObj.cells [i64 r.kind, boolv r.ext, rgl r.set, i64 r.lo, i64 r.hi, str r.frm, strl r.names, strl r.more, fldl r.parts, fldl r.adds, intl r.order, i64 r.elem]] ++ J)[h.length]? = some (AObj.cells [i64 r.kind, boolv r.ext, rgl r.set, i64 r.lo, i64 r.hi, str r.frm, strl r.names, strl r.more, fldl r.parts, fldl r.adds, intl r.order, i64 r.elem]) := fun J => by simp
  have d0 : decide ((r.set.length : Int) = 0) = decide (r.set.length = 0) := by rw [decide_eq_decide]; omega
  unfold rletsT sizesT
  generalize eLo (refN r.set) = lo at *
  generalize eHi (refN r.set) = hi at *
  generalize decide (0 < (refN r.set).length) = so at *
  simp only [ac84, dscv_eq, d0, awH, ↓awD, awP, Nat.reduceLeDiff, Nat.reduceEqDiff, Nat.reduceAdd, Int.reduceLT, Int.reduceLE, Int.reduceEq]
  repeat' (first | ((first | refine EvF.ret (hen _) ?_ | refine EvRF.ret (hen _) ?_); simp only [d0, g0, aw21, awH, ↓awD, awP, Nat.reduceLeDiff, Nat.reduceEqDiff, Nat.reduceAdd, Int.reduceLT, Int.reduceLE, Int.reduceEq]) | ((first | refine EvF.ret (hri _) ?_ | refine EvRF.ret (hri _) ?_); simp only [d0, g0, aw21, awH, ↓awD, awP, Nat.reduceLeDiff, Nat.reduceEqDiff, Nat.reduceAdd, Int.reduceLT, Int.reduceLE, Int.reduceEq]) | (refine BrF.mk (fun hb => ?_) (fun hb => ?_) <;> (try rw [hb]) <;> simp only [d0, g0, aw21, awH, ↓awD, awP, Nat.reduceLeDiff, Nat.reduceEqDiff, Nat.reduceAdd, Int.reduceLT, Int.reduceLE, Int.reduceEq]))
  all_goals (refine Fin.end hcl rfl (by first | rfl | exact (List.append_nil _).symm | (simp only [List.append_assoc]; rfl)) ⟨?_, rfl⟩; clear hcl hen hri g0; first | (simp only [*, cond_true, cond_false, Bool.not_true, Bool.not_false, Bool.true_and, Bool.false_and, Bool.and_true, Bool.and_false, Bool.true_or, Bool.false_or, Bool.or_true, Bool.or_false]; done) | (simp_all; done) | skip)

def ac86 : ACode := (.seq (.region [oq 6 (.move (.const (.slice none 0 0))), oq 7 (.move (cb false))]) (.seq (.region [oq 8 (.move (.const (.slice none 0 0)))]) (.seq (.seq (.region [oq 9 (.move (ci 0))]) (.block 0 (.loop (.seq (.seq (.region [oq 11 (qm 9), oq 12 (qm 1), oq 13 (qn 12), oq 14 (.bin .lss (tq 11) (tq 13))]) (.cond (tq 14) .skip (.exit 0))) (.seq (.block 1 (.seq (.region [oq 17 (qm 1), oq 18 (qm 9), oq 19 (qx 4 17 18), oq 20 (qs 4 19), oq 10 (.alloc [zs, zi, zb, zn]), oz (.store 4 (tq 10) (tq 20))]) (.seq (.seq (.region [oq 21 (qf 1 10), oq 22 (ql 21), oq 23 (.bin .lss (tq 22) (ci 0)), oq 24 (qm 23), og 25 (qf 1 10) 24 false, og 26 (ql 25) 24 false, og 27 (qm 0) 24 false, og 28 (.bin .geq (tq 26) (tq 27)) 24 false, oq 29 (.pick (tq 24) (cb true) (tq 28)), oq 30 (qm 29), og 31 (qf 2 10) 30 false, og 32 (ql 31) 30 false, og 33 (qm 32) 30 false, og 34 (qf 3 10) 33 true, og 35 (ql 34) 33 true, og 36 (qn 35) 33 true, og 37 (.bin .gtr (tq 36) (ci 0)) 33 true, og 38 (.pick (tq 33) (tq 37) (cb false)) 30 false, oq 39 (.pick (tq 30) (cb true) (tq 38)), oq 40 (qm 39), og 41 (qf 3 10) 40 false, og 42 (ql 41) 40 false, og 43 (qn 42) 40 false, og 44 (.bin .gtr (tq 43) (ci 1)) 40 false, oq 45 (.pick (tq 40) (cb true) (tq 44)), oq 46 (qm 45), og 47 (qm 2) 46 false, og 48 (qm 47) 46 false, og 49 (qf 2 10) 48 true, og 50 (ql 49) 48 true, og 51 (qm 50) 48 true, og 52 (qf 3 10) 51 false, og 53 (ql 52) 51 false, og 54 (qn 53) 51 false, og 55 (.bin .gtr (tq 54) (ci 0)) 51 false, og 56 (.pick (tq 51) (cb true) (tq 55)) 48 true, og 57 (.pick (tq 48) (tq 56) (cb false)) 46 false, oq 58 (.pick (tq 46) (cb true) (tq 57))]) (.cond (tq 58) (.seq (.region [oq 6 (.move (.const (.slice none 0 0))), oq 7 (.move (cb false))]) .ret) .skip)) (.region [oq 59 (.take 8), oq 60 (qf 0 10), oq 61 (ql 60), oq 62 (.buildSlice false 1 [zs] 1 [(0, (tq 61))]), oq 63 (.append 1 16 [zs] (tq 59) (tq 62)), oq 8 (.take 63)])))) (.region [oq 15 (qm 9), oq 16 (.bin .add (tq 15) (ci 1)), oq 9 (qm 16)])))))) (.seq (.region [oq 64 (qm 8), oq 65 (qm 1), oq 66 (qn 65), oq 67 (.bin .leq (tq 66) (ci 256)), oq 6 (qm 64), oq 7 (qm 67)]) .ret))))
theorem c86 : cfn E0.P [(8, 0), (8, 5)] Tryz.f86 = some (ac86, [(.tmp 6), (.tmp 7)], 68) := by kernel_rfl

abbrev fnames (l : List Fld) : List ByteArray := l.map (·.name)
set_option maxHeartbeats 4000000 in
theorem rfields2_ev (l : List Fld) (n : Nat) (ch : Bool) (hl : l.length < 2 ^ 40) (h : List AObj) : EvR E0 86 [i64 n, fldl l, boolv ch] h (.tup [strl (bif l.any (badF n ch) then [] else fnames l), boolv (!l.any (badF n ch) && decide (l.length ≤ 256))]) := by
  obtain ⟨P, hP⟩ : ∃ P, P = badF n ch := ⟨_, rfl⟩
  generalize hB : l.any (badF n ch) = B
  cases hB2 : B
  · cases hl0 : decide (l.length = 0)
    · have hlp : 0 < l.length := by have := of_decide_eq_false hl0; omega
      show EvR E0 86 [i64 n, fldl l, boolv ch] h (.tup [strl (fnames l), boolv (decide (l.length ≤ 256))])
      refine ev_of (fn := Tryz.f86) (hs := [(8, 0), (8, 5)]) Tryz.func86 c86 (by simp) fun hcl => ?_
      simp only [ac86, awH, ↓awD, awP, Nat.reduceLeDiff, Nat.reduceEqDiff, Nat.reduceAdd, Int.reduceLT, Int.reduceLE, Int.reduceEq]
      refine LoopF.list l (by omega) (γ := Cap × List AObj) (fun i g => ⟨[(0, i64 n), (1, fldl l), (2, boolv ch), (8, .sl g.1 ((fnames (l.take i)).map str)), (9, i64 i)], h ++ g.2⟩)
        (fun i g => (l.drop i).any P = B ∧ ((i = 0 ∧ g.1 = .full) ∨ (0 < i ∧ g.1 = .own 1))) (.full, []) ⟨by simpa [hP] using hB, .inl ⟨rfl, rfl⟩⟩ (weak_of (by simp) (by simp [look])) ?_ ?_
      · rintro i f ⟨c, J⟩ ha ⟨hv, hc⟩ hi e1 w3
        simp only at hc
        have hga := map_get fldv l i f ha
        rw [drop_get ha, List.any_cons] at hv
        have htk : fnames (l.take (i + 1)) = fnames (l.take i) ++ [f.name] := by rw [fnames, List.take_add_one, ha, List.map_append]; rfl
        have htl : (l.take i).length ≤ 2 ^ 41 := by have := List.length_take_le i l; omega
        have d1 : decide ((0 : Int) < (f.dfl.length : Int)) = decide (0 < f.dfl.length) := by rw [decide_eq_decide]; omega
        have d2 : decide ((1 : Int) < (f.dfl.length : Int)) = decide (1 < f.dfl.length) := by rw [decide_eq_decide]; omega
        simp only [e1, w3, getJ, setJ, d1, d2, awH, ↓awD, awP, Nat.reduceLeDiff, Nat.reduceEqDiff, Nat.reduceAdd, Int.reduceLT, Int.reduceLE, Int.reduceEq]
        ((try refine Need.mk (by first | (first | omega | (simp only [awO] at *; omega) | (simp; omega)) | (constructor <;> (first | omega | (simp only [awO] at *; omega) | (simp; omega)))) ?_); refine Elem.recs hga (by first | (rw [fldv_eq]; exact ⟨rfl, rfl⟩) | exact ⟨rfl, rfl⟩) ?_; simp only [fldv_eq, w3, getJ, setJ, d1, d2, aw21, awH, ↓awD, awP, Nat.reduceLeDiff, Nat.reduceEqDiff, Nat.reduceAdd, Int.reduceLT, Int.reduceLE, Int.reduceEq])
        cases hbf : P f
        · rw [hbf, Bool.false_or] at hv
          simp only [hP, badF, Bool.or_eq_false_iff] at hbf
          obtain ⟨k1, k2, k3, k4, k5⟩ := hbf
          have k6 : (f.opt && decide (0 < f.dfl.length)) = false := k3
          repeat' (refine BrF.mk (fun hb => ?_) (fun hb => ?_) <;> (try rw [hb]) <;> simp only [w3, getJ, setJ, d1, d2, aw21, awH, ↓awD, awP, Nat.reduceLeDiff, Nat.reduceEqDiff, Nat.reduceAdd, Int.reduceLT, Int.reduceLE, Int.reduceEq])
          all_goals first
            | (exfalso; clear hcl hga htk htl hc e1 w3 d1 d2 hv hB hi ha hP; simp_all; done)
            | ((refine Need.mk (by simp only [litParts, List.mem_cons, List.not_mem_nil, or_false, forall_eq_or_imp, forall_eq]; refine ⟨by decide, by decide, by decide, ?_⟩; repeat' (first | exact ⟨rfl, rfl, rfl⟩ | rfl | constructor)) ?_; simp only [w3, awH, ↓awD, awP, Nat.reduceLeDiff, Nat.reduceEqDiff, Nat.reduceAdd, Int.reduceLT, Int.reduceLE, Int.reduceEq])
               refine Need.mk (by (repeat' apply And.intro) <;> first | decide | rfl | exact hc.symm.imp (fun h => h.2) (fun h => ⟨h.2, fit_strs _⟩) | exact fit_str _ | exact one_str _ | ((try simp only [List.length_map, List.length_cons, List.length_nil]); omega)) ?_
               simp only [w3, awH, ↓awD, awP, Nat.reduceLeDiff, Nat.reduceEqDiff, Nat.reduceAdd, Int.reduceLT, Int.reduceLE, Int.reduceEq]
               refine ⟨(i + 1, .own 1, J ++ [_]), ⟨hi, hv, .inr ⟨by omega, rfl⟩⟩, by simp only; omega, weak_of (List.append_assoc ..).symm ?_⟩
               simp [look, htk])
        · rw [hbf, Bool.true_or] at hv
          (rw [hB2] at hv; cases hv)
      · rintro ⟨c, J⟩ ⟨hv, hc⟩ e1
        rw [List.take_length]
        rw [drop_len, List.any_nil] at hv
        simp only at hc
        have d3 : decide ((l.length : Int) ≤ 256) = decide (l.length ≤ 256) := by rw [decide_eq_decide]; omega
        obtain rfl : c = .own 1 := by
          rcases hc with h | h
          · exact absurd h.1 (by omega)
          · exact h.2
        simp only [e1, d3, awH, ↓awD, awP, Nat.reduceLeDiff, Nat.reduceEqDiff, Nat.reduceAdd, Int.reduceLT, Int.reduceLE, Int.reduceEq]
        exact Fin.end hcl (by simp only [AV.under, unders, Bool.and_true]; exact und_strs _ _) (by first | rfl | exact (List.append_nil _).symm | (simp only [List.append_assoc]; rfl)) ⟨rfl, rfl⟩
    · have hl1 : l = [] := List.length_eq_zero_iff.1 (of_decide_eq_true hl0)
      rw [show AV.tup [strl (bif false then [] else fnames l), boolv (!false && decide (l.length ≤ 256))] = AV.tup (lows [.sl .full [], boolv (decide (l.length ≤ 256))]) from by rw [hl1]; rfl]
      refine EvR.lowT ?_
      refine ev_of (fn := Tryz.f86) (hs := [(8, 0), (8, 5)]) Tryz.func86 c86 (by simp) fun hcl => ?_
      simp only [ac86, awH, ↓awD, awP, Nat.reduceLeDiff, Nat.reduceEqDiff, Nat.reduceAdd, Int.reduceLT, Int.reduceLE, Int.reduceEq]
      refine LoopF.list l (by omega) (γ := Cap × List AObj) (fun i g => ⟨[(0, i64 n), (1, fldl l), (2, boolv ch), (8, .sl g.1 ((fnames (l.take i)).map str)), (9, i64 i)], h ++ g.2⟩)
        (fun i g => (l.drop i).any P = B ∧ ((i = 0 ∧ g.1 = .full) ∨ (0 < i ∧ g.1 = .own 1))) (.full, []) ⟨by simpa [hP] using hB, .inl ⟨rfl, rfl⟩⟩ (weak_of (by simp) (by simp [look])) ?_ ?_
      · rintro i f ⟨c, J⟩ ha ⟨hv, hc⟩ hi e1 w3
        simp only at hc
        have hga := map_get fldv l i f ha
        rw [drop_get ha, List.any_cons] at hv
        have htk : fnames (l.take (i + 1)) = fnames (l.take i) ++ [f.name] := by rw [fnames, List.take_add_one, ha, List.map_append]; rfl
        have htl : (l.take i).length ≤ 2 ^ 41 := by have := List.length_take_le i l; omega
        have d1 : decide ((0 : Int) < (f.dfl.length : Int)) = decide (0 < f.dfl.length) := by rw [decide_eq_decide]; omega
        have d2 : decide ((1 : Int) < (f.dfl.length : Int)) = decide (1 < f.dfl.length) := by rw [decide_eq_decide]; omega
        simp only [e1, w3, getJ, setJ, d1, d2, awH, ↓awD, awP, Nat.reduceLeDiff, Nat.reduceEqDiff, Nat.reduceAdd, Int.reduceLT, Int.reduceLE, Int.reduceEq]
        ((try refine Need.mk (by first | (first | omega | (simp only [awO] at *; omega) | (simp; omega)) | (constructor <;> (first | omega | (simp only [awO] at *; omega) | (simp; omega)))) ?_); refine Elem.recs hga (by first | (rw [fldv_eq]; exact ⟨rfl, rfl⟩) | exact ⟨rfl, rfl⟩) ?_; simp only [fldv_eq, w3, getJ, setJ, d1, d2, aw21, awH, ↓awD, awP, Nat.reduceLeDiff, Nat.reduceEqDiff, Nat.reduceAdd, Int.reduceLT, Int.reduceLE, Int.reduceEq])
        cases hbf : P f
        · rw [hbf, Bool.false_or] at hv
          simp only [hP, badF, Bool.or_eq_false_iff] at hbf
          obtain ⟨k1, k2, k3, k4, k5⟩ := hbf
          have k6 : (f.opt && decide (0 < f.dfl.length)) = false := k3
          repeat' (refine BrF.mk (fun hb => ?_) (fun hb => ?_) <;> (try rw [hb]) <;> simp only [w3, getJ, setJ, d1, d2, aw21, awH, ↓awD, awP, Nat.reduceLeDiff, Nat.reduceEqDiff, Nat.reduceAdd, Int.reduceLT, Int.reduceLE, Int.reduceEq])
          all_goals first
            | (exfalso; clear hcl hga htk htl hc e1 w3 d1 d2 hv hB hi ha hP; simp_all; done)
            | ((refine Need.mk (by simp only [litParts, List.mem_cons, List.not_mem_nil, or_false, forall_eq_or_imp, forall_eq]; refine ⟨by decide, by decide, by decide, ?_⟩; repeat' (first | exact ⟨rfl, rfl, rfl⟩ | rfl | constructor)) ?_; simp only [w3, awH, ↓awD, awP, Nat.reduceLeDiff, Nat.reduceEqDiff, Nat.reduceAdd, Int.reduceLT, Int.reduceLE, Int.reduceEq])
               refine Need.mk (by (repeat' apply And.intro) <;> first | decide | rfl | exact hc.symm.imp (fun h => h.2) (fun h => ⟨h.2, fit_strs _⟩) | exact fit_str _ | exact one_str _ | ((try simp only [List.length_map, List.length_cons, List.length_nil]); omega)) ?_
               simp only [w3, awH, ↓awD, awP, Nat.reduceLeDiff, Nat.reduceEqDiff, Nat.reduceAdd, Int.reduceLT, Int.reduceLE, Int.reduceEq]
               refine ⟨(i + 1, .own 1, J ++ [_]), ⟨hi, hv, .inr ⟨by omega, rfl⟩⟩, by simp only; omega, weak_of (List.append_assoc ..).symm ?_⟩
               simp [look, htk])
        · rw [hbf, Bool.true_or] at hv
          (rw [hB2] at hv; cases hv)
      · rintro ⟨c, J⟩ ⟨hv, hc⟩ e1
        rw [List.take_length]
        rw [drop_len, List.any_nil] at hv
        simp only at hc
        have d3 : decide ((l.length : Int) ≤ 256) = decide (l.length ≤ 256) := by rw [decide_eq_decide]; omega
        obtain rfl : c = .full := by
          rcases hc with h | h
          · exact h.2
          · exact absurd h.1 (by rw [hl1]; decide)
        simp only [e1, d3, awH, ↓awD, awP, Nat.reduceLeDiff, Nat.reduceEqDiff, Nat.reduceAdd, Int.reduceLT, Int.reduceLE, Int.reduceEq]
        exact Fin.end hcl (by simp only [AV.under, unders, Bool.and_true]; exact und_strs _ _) (by first | rfl | exact (List.append_nil _).symm | (simp only [List.append_assoc]; rfl)) ⟨by rw [hl1]; rfl, rfl⟩
  · show EvR E0 86 [i64 n, fldl l, boolv ch] h (.tup (lows [.sl .full [], boolv false]))
    refine EvR.lowT ?_
    refine ev_of (fn := Tryz.f86) (hs := [(8, 0), (8, 5)]) Tryz.func86 c86 (by simp) fun hcl => ?_
    simp only [ac86, awH, ↓awD, awP, Nat.reduceLeDiff, Nat.reduceEqDiff, Nat.reduceAdd, Int.reduceLT, Int.reduceLE, Int.reduceEq]
    refine LoopF.list l (by omega) (γ := Cap × List AObj) (fun i g => ⟨[(0, i64 n), (1, fldl l), (2, boolv ch), (8, .sl g.1 ((fnames (l.take i)).map str)), (9, i64 i)], h ++ g.2⟩)
      (fun i g => (l.drop i).any P = B ∧ ((i = 0 ∧ g.1 = .full) ∨ (0 < i ∧ g.1 = .own 1))) (.full, []) ⟨by simpa [hP] using hB, .inl ⟨rfl, rfl⟩⟩ (weak_of (by simp) (by simp [look])) ?_ ?_
    · rintro i f ⟨c, J⟩ ha ⟨hv, hc⟩ hi e1 w3
      simp only at hc
      have hga := map_get fldv l i f ha
      rw [drop_get ha, List.any_cons] at hv
      have htk : fnames (l.take (i + 1)) = fnames (l.take i) ++ [f.name] := by rw [fnames, List.take_add_one, ha, List.map_append]; rfl
      have htl : (l.take i).length ≤ 2 ^ 41 := by have := List.length_take_le i l; omega
      have d1 : decide ((0 : Int) < (f.dfl.length : Int)) = decide (0 < f.dfl.length) := by rw [decide_eq_decide]; omega
      have d2 : decide ((1 : Int) < (f.dfl.length : Int)) = decide (1 < f.dfl.length) := by rw [decide_eq_decide]; omega
      simp only [e1, w3, getJ, setJ, d1, d2, awH, ↓awD, awP, Nat.reduceLeDiff, Nat.reduceEqDiff, Nat.reduceAdd, Int.reduceLT, Int.reduceLE, Int.reduceEq]
      ((try refine Need.mk (by first | (first | omega | (simp only [awO] at *; omega) | (simp; omega)) | (constructor <;> (first | omega | (simp only [awO] at *; omega) | (simp; omega)))) ?_); refine Elem.recs hga (by first | (rw [fldv_eq]; exact ⟨rfl, rfl⟩) | exact ⟨rfl, rfl⟩) ?_; simp only [fldv_eq, w3, getJ, setJ, d1, d2, aw21, awH, ↓awD, awP, Nat.reduceLeDiff, Nat.reduceEqDiff, Nat.reduceAdd, Int.reduceLT, Int.reduceLE, Int.reduceEq])
      cases hbf : P f
      · rw [hbf, Bool.false_or] at hv
        simp only [hP, badF, Bool.or_eq_false_iff] at hbf
        obtain ⟨k1, k2, k3, k4, k5⟩ := hbf
        have k6 : (f.opt && decide (0 < f.dfl.length)) = false := k3
        repeat' (refine BrF.mk (fun hb => ?_) (fun hb => ?_) <;> (try rw [hb]) <;> simp only [w3, getJ, setJ, d1, d2, aw21, awH, ↓awD, awP, Nat.reduceLeDiff, Nat.reduceEqDiff, Nat.reduceAdd, Int.reduceLT, Int.reduceLE, Int.reduceEq])
        all_goals first
          | (exfalso; clear hcl hga htk htl hc e1 w3 d1 d2 hv hB hi ha hP; simp_all; done)
          | ((refine Need.mk (by simp only [litParts, List.mem_cons, List.not_mem_nil, or_false, forall_eq_or_imp, forall_eq]; refine ⟨by decide, by decide, by decide, ?_⟩; repeat' (first | exact ⟨rfl, rfl, rfl⟩ | rfl | constructor)) ?_; simp only [w3, awH, ↓awD, awP, Nat.reduceLeDiff, Nat.reduceEqDiff, Nat.reduceAdd, Int.reduceLT, Int.reduceLE, Int.reduceEq])
             refine Need.mk (by (repeat' apply And.intro) <;> first | decide | rfl | exact hc.symm.imp (fun h => h.2) (fun h => ⟨h.2, fit_strs _⟩) | exact fit_str _ | exact one_str _ | ((try simp only [List.length_map, List.length_cons, List.length_nil]); omega)) ?_
             simp only [w3, awH, ↓awD, awP, Nat.reduceLeDiff, Nat.reduceEqDiff, Nat.reduceAdd, Int.reduceLT, Int.reduceLE, Int.reduceEq]
             refine ⟨(i + 1, .own 1, J ++ [_]), ⟨hi, hv, .inr ⟨by omega, rfl⟩⟩, by simp only; omega, weak_of (List.append_assoc ..).symm ?_⟩
             simp [look, htk])
      · rw [hbf, Bool.true_or] at hv
        have hbf2 := hbf
        simp only [hP, badF] at hbf2
        repeat' (refine BrF.mk (fun hb => ?_) (fun hb => ?_) <;> (try rw [hb]) <;> simp only [w3, getJ, setJ, d1, d2, aw21, awH, ↓awD, awP, Nat.reduceLeDiff, Nat.reduceEqDiff, Nat.reduceAdd, Int.reduceLT, Int.reduceLE, Int.reduceEq])
        all_goals first
          | exact Fin.end hcl rfl (by first | rfl | exact (List.append_nil _).symm | (simp only [List.append_assoc]; rfl)) ⟨rfl, rfl⟩
          | (exfalso; clear hcl hga htk htl hc e1 w3 d1 d2 hv hB hi ha hP; simp_all; done)
    · rintro ⟨c, J⟩ ⟨hv, hc⟩ e1
      rw [List.take_length]
      rw [drop_len, List.any_nil] at hv
      simp only at hc
      have d3 : decide ((l.length : Int) ≤ 256) = decide (l.length ≤ 256) := by rw [decide_eq_decide]; omega
      (rw [hB2] at hv; cases hv)

def ac87 : ACode := (.seq (.region [oq 4 (.move (cb false))]) (.seq (.region [oq 8 (.buildSlice false 1 [zs] 0 []), oq 9 (qm 0), oq 10 (.append 1 16 [zs] (tq 8) (tq 9)), oq 11 (qm 1), oq 12 (.append 1 16 [zs] (tq 10) (tq 11)), oq 5 (.take 12)]) (.seq (.seq (.region [oq 6 (.move (ci 0))]) (.block 0 (.loop (.seq (.seq (.region [oq 13 (qm 6), oq 14 (qm 5), oq 15 (qn 14), oq 16 (.bin .lss (tq 13) (tq 15))]) (.cond (tq 16) .skip (.exit 0))) (.seq (.block 1 (.seq (.region [oq 7 (.move (ci 0))]) (.block 2 (.loop (.seq (.seq (.region [oq 19 (qm 7), oq 20 (qm 6), oq 21 (.bin .lss (tq 19) (tq 20))]) (.cond (tq 21) .skip (.exit 2))) (.seq (.block 3 (.seq (.draw [oq 24 (qm 5), oq 25 (qm 6), oq 26 (qx 1 24 25), oq 27 (ql 26), oq 28 (qm 5), oq 29 (qm 7), oq 30 (qx 1 28 29), oq 31 (ql 30), oq 32 (.bin .eql (tq 27) (tq 31))]) (.cond (tq 32) (.seq (.region [oq 4 (.move (cb false))]) .ret) .skip))) (.region [oq 22 (qm 7), oq 23 (.bin .add (tq 22) (ci 1)), oq 7 (qm 23)]))))))) (.region [oq 17 (qm 6), oq 18 (.bin .add (tq 17) (ci 1)), oq 6 (qm 18)])))))) (.seq (.region [oq 4 (.move (cb true))]) .ret))))
theorem c87 : cfn E0.P [(1, 5)] Tryz.f87 = some (ac87, [(.tmp 4)], 33) := by kernel_rfl

def apartW : List ByteArray → List ByteArray → Bool
  | _, [] => true
  | m, x :: l => !m.any (fun y => decide (x = y)) && apartW (m ++ [x]) l
theorem apartW_iff : ∀ (l m : List ByteArray), apartW m l = true ↔ (∀ x, x ∈ l → x ∉ m) ∧ l.Nodup
  | [], m => by simp [apartW]
  | a :: l, m => by
    simp only [apartW, Bool.and_eq_true, Bool.not_eq_true', List.any_eq_false, decide_eq_true_eq]
    rw [apartW_iff l (m ++ [a])]
    simp only [List.mem_append, List.mem_singleton, not_or, List.mem_cons, forall_eq_or_imp, List.nodup_cons]
    constructor
    · rintro ⟨h1, h2, h3⟩
      exact ⟨⟨fun hm => h1 a hm rfl, fun x hx => (h2 x hx).1⟩, fun ha => (h2 a ha).2.1 rfl, h3⟩
    · rintro ⟨⟨h1, h2⟩, h3, h4⟩
      exact ⟨fun y hy he => h1 (he ▸ hy), fun x hx => ⟨h2 x hx, fun he => h3 (he ▸ hx), by simp⟩, h4⟩
theorem apart_once (l : List ByteArray) : apartW [] l = onceT l := by
  rw [Bool.eq_iff_iff, apartW_iff]; unfold onceT; rw [onceW_iff]
theorem rapart_ev (a b : List ByteArray) (hl : a.length + b.length < 2 ^ 40) (h : List AObj) : EvR E0 87 [strl a, strl b] h (boolv (onceT (a ++ b))) := by
  rw [← apart_once]
  refine ev_of (fn := Tryz.f87) (hs := [(1, 5)]) Tryz.func87 c87 (by simp) fun hcl => ?_
  generalize hR : apartW [] (a ++ b) = R
  simp only [ac87, awH, ↓awD, awP, Nat.reduceLeDiff, Nat.reduceEqDiff, Nat.reduceAdd, Int.reduceLT, Int.reduceLE, Int.reduceEq]
  refine Need.mk ⟨rfl, by decide, by decide, by simp [litParts]⟩ ?_
  simp only [awH, ↓awD, awP, Nat.reduceLeDiff, Nat.reduceEqDiff, Nat.reduceAdd, Int.reduceLT, Int.reduceLE, Int.reduceEq]
  refine Need.mk (by (repeat' apply And.intro) <;> first | decide | rfl | exact .inr (fun e he => by cases he) | exact .inl rfl | exact .inl trivial | exact fit_strs _ | exact one_strs _ | ((try simp only [List.length_map, List.length_append, List.length_nil]); omega) | skip) ?_
  simp only [List.nil_append, awH, ↓awD, awP, Nat.reduceLeDiff, Nat.reduceEqDiff, Nat.reduceAdd, Int.reduceLT, Int.reduceLE, Int.reduceEq]
  refine Need.mk (by (repeat' apply And.intro) <;> first | decide | rfl | exact .inr (fun e he => by cases he) | exact .inl rfl | exact .inl trivial | exact fit_strs _ | exact one_strs _ | ((try simp only [List.length_map, List.length_append, List.length_nil]); omega) | skip) ?_
  rw [← List.map_append]
  have hal : (a ++ b).length < 2 ^ 40 := by rw [List.length_append]; exact hl
  generalize a ++ b = l at *
  simp only [List.nil_append, awH, ↓awD, awP, Nat.reduceLeDiff, Nat.reduceEqDiff, Nat.reduceAdd, Int.reduceLT, Int.reduceLE, Int.reduceEq]
  refine LoopF.list l (by omega) (γ := Unit) (fun i _ => ⟨[(5, .sl (.own 1) (l.map str)), (6, i64 i)], h⟩) (fun i _ => apartW (l.take i) (l.drop i) = R) () (by simpa using hR) (weak_of rfl (by simp [look])) ?_ ?_
  · rintro i x _ hx hv hi e1 w3
    rw [drop_get hx] at hv
    simp only [apartW] at hv
    have hgx := map_get str l i x hx
    have htk : l.take i ++ [x] = l.take (i + 1) := by rw [List.take_add_one, hx]; rfl
    rw [htk] at hv
    simp only [e1, w3, awH, ↓awD, awP, Nat.reduceLeDiff, Nat.reduceEqDiff, Nat.reduceAdd, Int.reduceLT, Int.reduceLE, Int.reduceEq]
    refine LoopF.upto i (by omega) (γ := Unit) (fun j _ => ⟨[(5, .sl (.own 1) (l.map str)), (6, i64 i), (7, i64 j)], h⟩) (fun j _ => (!((l.take i).drop j).any (fun y => decide (x = y)) && apartW (l.take (i + 1)) (l.drop (i + 1))) = R) () (by simpa using hv) (weak_of rfl (by simp [look])) ?_ ?_
    · rintro j _ hvj hji e2 w3j
      obtain ⟨y, hy⟩ : ∃ y, l[j]? = some y := ⟨_, List.getElem?_eq_getElem (by omega)⟩
      have hgy := map_get str l j y hy
      have hty : (l.take i)[j]? = some y := by rw [List.getElem?_take_of_lt hji]; exact hy
      rw [drop_get hty, List.any_cons] at hvj
      simp only [e2, w3j, awH, ↓awD, awP, Nat.reduceLeDiff, Nat.reduceEqDiff, Nat.reduceAdd, Int.reduceLT, Int.reduceLE, Int.reduceEq]
      refine Need.mk ⟨by omega, by omega⟩ (Elem.recs hgx ⟨rfl, rfl⟩ ?_)
      simp only [e2, w3j, awH, ↓awD, awP, Nat.reduceLeDiff, Nat.reduceEqDiff, Nat.reduceAdd, Int.reduceLT, Int.reduceLE, Int.reduceEq]
      refine Need.mk ⟨by omega, by omega⟩ (Elem.recs hgy ⟨rfl, rfl⟩ ?_)
      simp only [e2, w3j, awH, ↓awD, awP, Nat.reduceLeDiff, Nat.reduceEqDiff, Nat.reduceAdd, Int.reduceLT, Int.reduceLE, Int.reduceEq]
      cases hxy : decide (x = y)
      · rw [hxy, Bool.false_or] at hvj
        simp only [w3j, awH, ↓awD, awP, Nat.reduceLeDiff, Nat.reduceEqDiff, Nat.reduceAdd, Int.reduceLT, Int.reduceLE, Int.reduceEq]
        exact ⟨(j + 1, ()), ⟨hji, hvj⟩, by simp only; omega, weak_of rfl (by simp [look])⟩
      · rw [hxy, Bool.true_or, Bool.not_true, Bool.false_and] at hvj
        subst hvj
        simp only [awH, ↓awD, awP, Nat.reduceLeDiff, Nat.reduceEqDiff, Nat.reduceAdd, Int.reduceLT, Int.reduceLE, Int.reduceEq]
        exact Fin.end hcl rfl (by first | rfl | exact (List.append_nil _).symm | (simp only [List.append_assoc]; rfl)) ⟨rfl, rfl⟩
    · rintro _ hvj e2
      rw [List.drop_eq_nil_of_le (by rw [List.length_take]; omega), List.any_nil, Bool.not_false, Bool.true_and] at hvj
      simp only [e2, w3, awH, ↓awD, awP, Nat.reduceLeDiff, Nat.reduceEqDiff, Nat.reduceAdd, Int.reduceLT, Int.reduceLE, Int.reduceEq]
      exact ⟨(i + 1, ()), ⟨hi, hvj⟩, by simp only; omega, weak_of rfl (by simp [look])⟩
  · rintro _ hv e1
    rw [drop_len] at hv
    simp only [apartW] at hv
    subst hv
    simp only [e1, awH, ↓awD, awP, Nat.reduceLeDiff, Nat.reduceEqDiff, Nat.reduceAdd, Int.reduceLT, Int.reduceLE, Int.reduceEq]
    exact Fin.end hcl rfl (by first | rfl | exact (List.append_nil _).symm | (simp only [List.append_assoc]; rfl)) ⟨rfl, rfl⟩

def ac88 : ACode := (.seq (.region [oq 4 (.move (cb false))]) (.seq (.region [oq 7 (qm 1), oq 8 (.makeSlice false 1 1 [zb] (tq 7) (tq 7)), oq 5 (.take 8)]) (.seq (.seq (.region [oq 6 (.move (ci 0))]) (.block 0 (.loop (.seq (.seq (.region [oq 9 (qm 6), oq 10 (qm 0), oq 11 (qn 10), oq 12 (.bin .lss (tq 9) (tq 11))]) (.cond (tq 12) .skip (.exit 0))) (.seq (.block 1 (.seq (.seq (.region [oq 15 (qm 0), oq 16 (qm 6), oq 17 (qx 1 15 16), oq 18 (ql 17), oq 19 (.bin .lss (tq 18) (ci 0)), oq 20 (qm 19), og 21 (qm 0) 20 false, og 22 (qm 6) 20 false, og 23 (qx 1 21 22) 20 false, og 24 (ql 23) 20 false, og 25 (qm 1) 20 false, og 26 (.bin .geq (tq 24) (tq 25)) 20 false, oq 27 (.pick (tq 20) (cb true) (tq 26)), oq 28 (qm 27), og 29 (qm 5) 28 false, og 30 (qm 0) 28 false, og 31 (qm 6) 28 false, og 32 (qx 1 30 31) 28 false, og 33 (ql 32) 28 false, og 34 (qx 1 29 33) 28 false, og 35 (ql 34) 28 false, oq 36 (.pick (tq 28) (cb true) (tq 35))]) (.cond (tq 36) (.seq (.region [oq 4 (.move (cb false))]) .ret) .skip)) (.region [oq 37 (qm 5), oq 38 (qm 0), oq 39 (qm 6), oq 40 (qx 1 38 39), oq 41 (ql 40), oq 42 (qx 1 37 41), oz (.store 1 (tq 42) (cb true))]))) (.region [oq 13 (qm 6), oq 14 (.bin .add (tq 13) (ci 1)), oq 6 (qm 14)])))))) (.seq (.region [oq 43 (qm 0), oq 44 (qn 43), oq 45 (qm 1), oq 46 (.bin .eql (tq 44) (tq 45)), oq 4 (qm 46)]) .ret))))
theorem c88 : cfn E0.P [(1, 2)] Tryz.f88 = some (ac88, [(.tmp 4)], 47) := by kernel_rfl

def ordW (n : Nat) : List Int → List Int → Bool
  | _, [] => true
  | m, x :: l => !(decide (x < 0) || (decide ((n : Int) ≤ x) || m.any fun y => decide (y = x))) && ordW n (x :: m) l
theorem ordW_iff (n : Nat) : ∀ (l m : List Int), ordW n m l = true ↔ (∀ x, x ∈ l → (0 ≤ x ∧ x < n) ∧ x ∉ m) ∧ l.Nodup
  | [], m => by simp [ordW]
  | a :: l, m => by
    simp only [ordW, Bool.and_eq_true, Bool.not_eq_true', Bool.or_eq_false_iff, decide_eq_false_iff_not, List.any_eq_false, decide_eq_true_eq]
    rw [ordW_iff n l (a :: m)]
    simp only [List.mem_cons, not_or, forall_eq_or_imp, List.nodup_cons]
    constructor
    · rintro ⟨⟨h1, h2, h3⟩, h4, h5⟩
      exact ⟨⟨⟨⟨by omega, by omega⟩, fun hm => h3 a hm rfl⟩, fun x hx => ⟨(h4 x hx).1, (h4 x hx).2.2⟩⟩, fun ha => (h4 a ha).2.1 rfl, h5⟩
    · rintro ⟨⟨⟨⟨h1, h2⟩, h3⟩, h4⟩, h5, h6⟩
      exact ⟨⟨by omega, by omega, fun y hy he => h3 (he ▸ hy)⟩, fun x hx => ⟨(h4 x hx).1, fun he => h5 (he ▸ hx), (h4 x hx).2⟩, h6⟩
theorem rise_room : ∀ (m : List Int) (x B : Int), (x :: m).Pairwise (· < ·) → (∀ y, y ∈ x :: m → y < B) → x + m.length < B
  | [], x, B, _, h => by have := h x List.mem_cons_self; simp only [List.length_nil]; omega
  | y :: m, x, B, hp, h => by
    have h1 := rise_room m y B (List.pairwise_cons.1 hp).2 fun z hz => h z (List.mem_cons_of_mem _ hz)
    have h2 := (List.pairwise_cons.1 hp).1 y List.mem_cons_self
    simp only [List.length_cons]; omega
theorem idI_of : ∀ (m : List Int) (k : Nat), m.Pairwise (· < ·) → (∀ y, y ∈ m → (k : Int) ≤ y ∧ y < k + m.length) → idI k m = true
  | [], _, _, _ => rfl
  | x :: m, k, hp, h => by
    have h1 := rise_room m x (k + (x :: m).length) hp fun y hy => (h y hy).2
    have h2 := (h x List.mem_cons_self).1
    simp only [List.length_cons] at h1
    have hx : (k : Int) = x := by omega
    simp only [idI, hx, decide_true, Bool.true_and]
    refine idI_of m (k + 1) (List.pairwise_cons.1 hp).2 fun y hy => ?_
    have h3 := (List.pairwise_cons.1 hp).1 y hy
    have h4 := (h y (List.mem_cons_of_mem _ hy)).2
    simp only [List.length_cons] at h4
    omega
theorem idI_to : ∀ (m : List Int) (k : Nat), idI k m = true → m.Pairwise (· < ·) ∧ ∀ y, y ∈ m → (k : Int) ≤ y ∧ y < k + m.length
  | [], _, _ => ⟨List.Pairwise.nil, fun y hy => by simp at hy⟩
  | x :: m, k, h => by
    simp only [idI, Bool.and_eq_true, decide_eq_true_eq] at h
    obtain ⟨h1, h2⟩ := idI_to m (k + 1) h.2
    have hx := h.1
    refine ⟨List.pairwise_cons.2 ⟨fun y hy => by have := h2 y hy; omega, h1⟩, fun y hy => ?_⟩
    simp only [List.length_cons]
    rcases List.mem_cons.1 hy with rfl | hy
    · omega
    · have := h2 y hy; omega
theorem sortI_pw (l : List Int) : (sortI l).Pairwise (· ≤ ·) := by
  have := List.pairwise_mergeSort (le := fun (x y : Int) => decide (x ≤ y)) (fun a b c h1 h2 => by simp only [decide_eq_true_eq] at *; omega) (fun a b => by simp only [Bool.or_eq_true, decide_eq_true_eq]; omega) l
  exact this.imp fun h => of_decide_eq_true h
theorem sortI_perm (l : List Int) : (sortI l).Perm l := List.mergeSort_perm _ _
theorem order_places (l : List Int) (n : Nat) : (ordW n [] l && decide (l.length = n)) = placesT l n := by
  rw [Bool.eq_iff_iff]
  unfold placesT
  simp only [Bool.and_eq_true, decide_eq_true_eq]
  refine and_congr_left fun hl => ?_
  rw [ordW_iff]
  have hp := sortI_perm l
  have hlen : (sortI l).length = n := by rw [hp.length_eq, hl]
  constructor
  · rintro ⟨h1, h2⟩
    have hnd : (sortI l).Nodup := hp.nodup_iff.2 h2
    refine idI_of _ 0 ?_ fun y hy => ?_
    · have := (sortI_pw l).and hnd
      exact this.imp fun {a b} h => by have := h.1; have := h.2; omega
    · rw [hlen]
      have := (h1 y (hp.mem_iff.1 hy)).1
      omega
  · intro h
    obtain ⟨h1, h2⟩ := idI_to _ 0 h
    refine ⟨fun x hx => ⟨?_, by simp⟩, hp.nodup_iff.1 (h1.imp fun {a b} hab => by omega)⟩
    have := h2 x (hp.mem_iff.2 hx)
    rw [hlen] at this
    omega
def metL (n : Nat) (m : List Int) : List AV := (List.range n).map fun (i : Nat) => boolv (m.any fun y => decide (y = (i : Int)))
theorem metL_get {n : Nat} {m : List Int} {i : Nat} (hi : i < n) : (metL n m)[i]? = some (boolv (m.any fun y => decide (y = (i : Int)))) := by
  simp [metL, hi]
theorem metL_nil (n : Nat) : metL n [] = zerosL n [.lit (.bool false)] := by
  unfold metL zerosL
  induction n with
  | zero => rfl
  | succ n ih => rw [List.range_succ, List.map_append, ih, List.replicate_succ', List.flatten_append]; rfl
theorem metL_set {n : Nat} {m : List Int} {i : Nat} (hi : i < n) : (metL n m).set i (.lit (.bool true)) = metL n ((i : Int) :: m) := by
  refine List.ext_getElem? fun j => ?_
  by_cases hj : j < n
  · rw [metL_get hj]
    by_cases hij : i = j
    · subst hij
      rw [List.getElem?_set_self (by simp [metL, hi])]
      simp
    · rw [List.getElem?_set_ne hij, metL_get hj]
      have : decide ((i : Int) = (j : Int)) = false := by rw [decide_eq_false_iff_not]; omega
      simp [this]
  · rw [List.getElem?_eq_none (by simp [metL]; omega), List.getElem?_eq_none (by simp [metL]; omega)]
set_option maxHeartbeats 4000000 in
theorem rorder_ev (l : List Int) (n : Nat) (hl : l.length < 2 ^ 40) (hn : n < 2 ^ 40) (h : List AObj) : EvR E0 88 [intl l, i64 n] h (boolv (placesT l n)) := by
  rw [← order_places]
  refine Ev.drop rfl ?_
  refine ev_of (fn := Tryz.f88) (hs := [(1, 2)]) Tryz.func88 c88 (by simp) fun hcl => ?_
  generalize hR : (ordW n [] l && decide (l.length = n)) = R
  simp only [ac88, awH, ↓awD, awP, Nat.reduceLeDiff, Nat.reduceEqDiff, Nat.reduceAdd, Int.reduceLT, Int.reduceLE, Int.reduceEq]
  refine Need.mk (by (repeat' apply And.intro) <;> first | decide | rfl | omega) ?_
  rw [Int.toNat_natCast, ← metL_nil]
  simp only [awH, ↓awD, awP, Nat.reduceLeDiff, Nat.reduceEqDiff, Nat.reduceAdd, Int.reduceLT, Int.reduceLE, Int.reduceEq]
  have gO : ∀ m, (h ++ [AObj.cells (metL n m)])[h.length]? = some (AObj.cells (metL n m)) := fun m => by simp
  refine LoopF.list l (by omega) (γ := List Int) (fun i m => ⟨[(0, intl l), (1, i64 n), (5, .vw h.length 0 n n), (6, i64 i)], h ++ [AObj.cells (metL n m)]⟩) (fun i m => (ordW n m (l.drop i) && decide (l.length = n)) = R) [] (by simpa using hR) (weak_of rfl (by simp [look])) ?_ ?_
  · rintro i x m hx hv hi e1 w3
    rw [drop_get hx] at hv
    simp only [ordW] at hv
    have hgx := map_get i64 l i x hx
    simp only [e1, w3, awH, ↓awD, awP, Nat.reduceLeDiff, Nat.reduceEqDiff, Nat.reduceAdd, Int.reduceLT, Int.reduceLE, Int.reduceEq]
    cases h1 : decide (x < 0)
    · cases h2 : decide ((n : Int) ≤ x)
      · rw [decide_eq_false_iff_not] at h1 h2
        obtain ⟨k, rfl⟩ : ∃ k : Nat, x = (k : Int) := ⟨x.toNat, (Int.toNat_of_nonneg (by omega)).symm⟩
        have hkn : k < n := by omega
        have hmk := metL_get (m := m) hkn
        have hms := metL_set (m := m) hkn
        have hml : (metL n m).length = n := by simp [metL]
        have h1 : decide ((k : Int) < 0) = false := decide_eq_false h1
        have h2 : decide ((n : Int) ≤ (k : Int)) = false := decide_eq_false h2
        repeat' (first | ((try refine Need.mk (by first | (first | omega | (simp only [awO] at *; omega) | (simp; omega)) | (constructor <;> (first | omega | (simp only [awO] at *; omega) | (simp; omega)))) ?_); refine Elem.recs hgx (by first | (rw [w3]; exact ⟨rfl, rfl⟩) | exact ⟨rfl, rfl⟩) ?_; simp only [w3, h1, h2, aw21, awH, ↓awD, awP, Nat.reduceLeDiff, Nat.reduceEqDiff, Nat.reduceAdd, Int.reduceLT, Int.reduceLE, Int.reduceEq]))
        refine Need.mk ⟨by omega, by omega⟩ ?_
        cases hin : m.any fun y => decide (y = (k : Int))
        · rw [hin] at hmk
          rw [h1, h2, hin] at hv
          simp only [Bool.false_or, Bool.or_false, Bool.not_false, Bool.true_and] at hv
          simp only [gO, Int.toNat_natCast, Nat.mul_one, hmk, w3, awH, ↓awD, awP, Nat.reduceLeDiff, Nat.reduceEqDiff, Nat.reduceAdd, Int.reduceLT, Int.reduceLE, Int.reduceEq]
          repeat' (first | ((try refine Need.mk (by first | (first | omega | (simp only [awO] at *; omega) | (simp; omega)) | (constructor <;> (first | omega | (simp only [awO] at *; omega) | (simp; omega)))) ?_); refine Elem.recs hgx (by first | (rw [w3]; exact ⟨rfl, rfl⟩) | exact ⟨rfl, rfl⟩) ?_; simp only [w3, h1, h2, gO, hmk, aw21, awH, ↓awD, awP, Nat.reduceLeDiff, Nat.reduceEqDiff, Nat.reduceAdd, Int.reduceLT, Int.reduceLE, Int.reduceEq]))
          refine Need.mk ⟨by omega, by omega⟩ ?_
          simp only [gO, Int.toNat_natCast, Nat.mul_one, hmk, w3, awH, ↓awD, awP, Nat.reduceLeDiff, Nat.reduceEqDiff, Nat.reduceAdd, Int.reduceLT, Int.reduceLE, Int.reduceEq]
          refine Need.mk (by omega) ?_
          have hsm : setMany (metL n m) k [AV.lit (.bool true)] = metL n ((k : Int) :: m) := hms
          have hst : ∀ o : AObj, (h ++ [AObj.cells (metL n m)]).set h.length o = h ++ [o] := fun o => by simp
          simp only [w3, hsm, hst, awH, ↓awD, awP, Nat.reduceLeDiff, Nat.reduceEqDiff, Nat.reduceAdd, Int.reduceLT, Int.reduceLE, Int.reduceEq]
          exact ⟨(i + 1, (k : Int) :: m), ⟨hi, hv⟩, by simp only; omega, weak_of rfl (by simp [look])⟩
        · rw [hin] at hmk
          rw [h1, h2, hin] at hv
          simp only [Bool.false_or, Bool.or_true, Bool.not_true, Bool.false_and] at hv
          subst hv
          simp only [gO, Int.toNat_natCast, Nat.mul_one, hmk, w3, awH, ↓awD, awP, Nat.reduceLeDiff, Nat.reduceEqDiff, Nat.reduceAdd, Int.reduceLT, Int.reduceLE, Int.reduceEq]
          exact Fin.all (by simp) ⟨rfl, _, rfl⟩
      · rw [h1, h2] at hv
        simp only [Bool.false_or, Bool.true_or, Bool.not_true, Bool.false_and] at hv
        subst hv
        repeat' (first | ((try refine Need.mk (by first | (first | omega | (simp only [awO] at *; omega) | (simp; omega)) | (constructor <;> (first | omega | (simp only [awO] at *; omega) | (simp; omega)))) ?_); refine Elem.recs hgx (by first | (rw [w3]; exact ⟨rfl, rfl⟩) | exact ⟨rfl, rfl⟩) ?_; simp only [w3, h1, h2, aw21, awH, ↓awD, awP, Nat.reduceLeDiff, Nat.reduceEqDiff, Nat.reduceAdd, Int.reduceLT, Int.reduceLE, Int.reduceEq]))
        exact Fin.all (by simp) ⟨rfl, _, rfl⟩
    · rw [h1] at hv
      simp only [Bool.true_or, Bool.not_true, Bool.false_and] at hv
      subst hv
      repeat' (first | ((try refine Need.mk (by first | (first | omega | (simp only [awO] at *; omega) | (simp; omega)) | (constructor <;> (first | omega | (simp only [awO] at *; omega) | (simp; omega)))) ?_); refine Elem.recs hgx (by first | (rw [w3]; exact ⟨rfl, rfl⟩) | exact ⟨rfl, rfl⟩) ?_; simp only [w3, h1, aw21, awH, ↓awD, awP, Nat.reduceLeDiff, Nat.reduceEqDiff, Nat.reduceAdd, Int.reduceLT, Int.reduceLE, Int.reduceEq]))
      exact Fin.all (by simp) ⟨rfl, _, rfl⟩
  · rintro m hv e1
    rw [drop_len] at hv
    simp only [ordW, Bool.true_and] at hv
    subst hv
    have dn : decide ((l.length : Int) = (n : Int)) = decide (l.length = n) := by rw [decide_eq_decide]; omega
    simp only [e1, dn, awH, ↓awD, awP, Nat.reduceLeDiff, Nat.reduceEqDiff, Nat.reduceAdd, Int.reduceLT, Int.reduceLE, Int.reduceEq]
    exact Fin.all (by simp) ⟨rfl, _, rfl⟩
end Go.Abs.Fr
