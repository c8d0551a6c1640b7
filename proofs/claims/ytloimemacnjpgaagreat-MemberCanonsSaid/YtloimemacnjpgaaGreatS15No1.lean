/- Sets put in order: a copy. -/
import Derived.Test.YtloimemacnjpgaaGreatS15Tb1
import Derived.Test.YtloimemacnjpgaaGreatAbsFz2
set_option linter.all false
namespace Go.Abs.Fr
open Go Go.Abs Go.Proofs
set_option linter.unusedSimpArgs false
set_option maxRecDepth 100000

def ac99 : ACode := (.seq (.region [oq 2 (.move (.const (.slice none 0 0)))]) (.seq (.seq (.region [oq 3 (qm 0), oq 4 (.eqNil false (tq 3))]) (.cond (tq 4) (.seq (.region [oq 2 (.move (.const (.slice none 0 0)))]) .ret) .skip)) (.seq (.region [oq 5 (.buildSlice false 2 [zi, zi] 0 []), oq 6 (qm 0), oq 7 (.appendO 2 16 [zi, zi] (tq 5) (tq 6)), oq 2 (qm 7)]) .ret)))
theorem c99 : cfn E0.P [(3,2)] Tryz.f99 = some (ac99, [(.tmp 2)], 8) := by kernel_rfl

def z2 : List AV := [.lit (.int .i64 0), .lit (.int .i64 0)]
theorem fit_rgs (l : List Rg) : Fit 2 (l.map rgv) := by
  intro e he; obtain ⟨c, _, rfl⟩ := List.mem_map.1 he; exact ⟨rfl, rfl⟩
theorem one_rgs (l : List Rg) : allOne (l.map rgv) := by
  intro e he; obtain ⟨c, _, rfl⟩ := List.mem_map.1 he; rfl
theorem strip_rgs (l : List Rg) : (flatC (l.map rgv)).map AV.strip = flatC (l.map rgv) := by
  induction l with
  | nil => rfl
  | cons a l ih => show ((rgv a).cells ++ flatC (l.map rgv)).map AV.strip = (rgv a).cells ++ flatC (l.map rgv); rw [List.map_append, ih]; rfl

theorem clone_ev (l : List Rg) (hl : l.length < 2 ^ 40) (h : List AObj) : Ev E0 99 [rgl l] h (fun r h' => ∃ s J, r = .ret s ∧ h' = h ++ J ∧ SlotOk h' h.length z2 (l.map rgv) s) := by
  refine ev_of (fn := Tryz.f99) (hs := [(3,2)]) Tryz.func99 c99 (by simp) fun hcl => ?_
  simp only [ac99, awH, ↓awD, awP, Nat.reduceLeDiff, Nat.reduceEqDiff, Nat.reduceAdd, Int.reduceLT, Int.reduceLE, Int.reduceEq]
  cases l with
  | nil =>
    simp only [List.map_nil, awH, ↓awD, awP, Nat.reduceLeDiff, Nat.reduceEqDiff, Nat.reduceAdd, Int.reduceLT, Int.reduceLE, Int.reduceEq]
    intro b
    cases b
    · simp only [List.map_nil, awH, ↓awD, awP, Nat.reduceLeDiff, Nat.reduceEqDiff, Nat.reduceAdd, Int.reduceLT, Int.reduceLE, Int.reduceEq]
      refine Need.mk ⟨rfl, by decide, by decide, by simp [litParts]⟩ ?_
      simp only [awApp, awH, ↓awD, awP, Nat.reduceLeDiff, Nat.reduceEqDiff, Nat.reduceAdd, Int.reduceLT, Int.reduceLE, Int.reduceEq]
      refine Need.mk (by (repeat' apply And.intro) <;> first | decide | rfl | exact (fun e he => by cases he) | (simp; done)) (AppF.mk (fun _ => ⟨rfl, ?_⟩) (fun hn => absurd rfl hn))
      simp only [awH, ↓awD, awP, Nat.reduceLeDiff, Nat.reduceEqDiff, Nat.reduceAdd, Int.reduceLT, Int.reduceLE, Int.reduceEq]
      exact Fin.all (Nat.le_refl _) ⟨_, [], rfl, by simp, .inl ⟨rfl, rfl⟩⟩
    · simp only [awH, ↓awD, awP, Nat.reduceLeDiff, Nat.reduceEqDiff, Nat.reduceAdd, Int.reduceLT, Int.reduceLE, Int.reduceEq]
      exact Fin.all (Nat.le_refl _) ⟨_, [], rfl, by simp, .inl ⟨rfl, rfl⟩⟩
  | cons a l =>
    have hsh : List.map rgv (a :: l) = rgv a :: List.map rgv l := rfl
    simp only [hsh, awH, ↓awD, awP, Nat.reduceLeDiff, Nat.reduceEqDiff, Nat.reduceAdd, Int.reduceLT, Int.reduceLE, Int.reduceEq]
    refine Need.mk ⟨rfl, by decide, by decide, by simp [litParts]⟩ ?_
    simp only [awH, ↓awD, awP, Nat.reduceLeDiff, Nat.reduceEqDiff, Nat.reduceAdd, Int.reduceLT, Int.reduceLE, Int.reduceEq]
    rw [← hsh]
    refine AppO.use (z := z2) (P := h) (J := []) (lo := h.length) (List.append_nil h).symm rfl (.inl ⟨rfl, rfl⟩) (by decide) rfl (fun e he => by cases he) (fit_rgs _) (one_rgs _) rfl (strip_rgs _) (by simp only [List.length_map, List.length_nil]; omega) (by simp only [List.length_map, List.length_nil]; omega) (by simp) fun J s hs _ _ => ?_
    have os := hs.one
    simp only [os, awH, ↓awD, awP, Nat.reduceLeDiff, Nat.reduceEqDiff, Nat.reduceAdd, Int.reduceLT, Int.reduceLE, Int.reduceEq]
    rw [List.nil_append] at hs
    exact Fin.all (by simp) ⟨s, J, rfl, rfl, hs⟩

theorem dyn_cells {z es : List AV} {cap k j : Nat} {e : AV} (hf : Fit k es) (he : es[j]? = some e) : ((dynL z es cap).drop (j * k)).take k = e.cells := by
  have hlt := (List.getElem?_eq_some_iff.1 he).1
  have h1 : es = es.take j ++ e :: es.drop (j + 1) := by
    rw [← drop_get he, List.take_append_drop]
  have hft : Fit k (es.take j) := fun x hx => hf x (List.mem_of_mem_take hx)
  have hl : (flatC (es.take j)).length = j * k := by rw [flatC_fit hft, List.length_take, Nat.min_eq_left (Nat.le_of_lt hlt)]
  have hek : e.cells.length = k := (hf e (List.mem_of_getElem? he)).2
  have h2 : flatC es = flatC (es.take j) ++ (e.cells ++ flatC (es.drop (j + 1))) := by
    conv => lhs; rw [h1]
    rw [flatC_append]; rfl
  rw [dynL, h2, List.append_assoc, ← hl, List.drop_left, List.append_assoc, ← hek, List.take_left]

theorem rgIdxW (l : List Rg) (f : FuncId) (p : Rg → Bool) (h : List AObj) (id cap : Nat) (hid : h[id]? = some (.cells (dynL z2 (l.map rgv) cap))) (hl : l.length < 2 ^ 60) (hp : ∀ s h, EvR E0 f [rgv s] h (boolv (p s))) :
    EvR E0 89 [.vw id 0 l.length cap, .fn (.func f) [] []] h (i64 (idx p l 0)) := by
  refine ev_of (fn := Tryz.f89) (hs := []) Tryz.func89 c89 (by simp) fun hcl => ?_
  generalize hR : idx p l 0 = R
  simp only [ac89, awH, ↓awD, awP, Nat.reduceLeDiff, Nat.reduceEqDiff, Nat.reduceAdd, Int.reduceLT, Int.reduceLE, Int.reduceEq]
  refine LoopF.list l hl (γ := Unit) (fun i _ => ⟨[(0, .vw id 0 l.length cap), (1, .fn (.func f) [] []), (6, .vw id 0 l.length cap), (7, i64 l.length), (8, i64 i)], h⟩) (fun i _ => idx p (l.drop i) i = R) () (by simpa using hR) (weak_of rfl (by simp [look])) ?_ ?_
  · rintro i a _ ha hv hi e1 w3
    rw [drop_get ha] at hv
    unfold idx at hv
    have hpa := fun h => hp a h
    have hdl := dyn_cells (z := z2) (cap := cap) (fit_rgs l) (map_get rgv l i a ha)
    simp only [e1, w3, hid, awH, ↓awD, awP, Nat.reduceLeDiff, Nat.reduceEqDiff, Nat.reduceAdd, Int.reduceLT, Int.reduceLE, Int.reduceEq]
    refine Need.mk ⟨by omega, by omega⟩ ?_
    have hlen : i * 2 + 2 ≤ (dynL z2 (l.map rgv) cap).length := by
      rw [dynL, List.length_append, flatC_fit (fit_rgs l), List.length_map]; omega
    simp only [hid, hdl, rgv_eq, Int.toNat_natCast, w3, awH, ↓awD, awP, Nat.reduceLeDiff, Nat.reduceEqDiff, Nat.reduceAdd, Int.reduceLT, Int.reduceLE, Int.reduceEq]
    refine Need.mk hlen ?_
    simp only [hid, hdl, rgv_eq, AV.cells, w3, awH, ↓awD, awP, Nat.reduceLeDiff, Nat.reduceEqDiff, Nat.reduceAdd, Int.reduceLT, Int.reduceLE, Int.reduceEq]
    simp only [rgv_eq] at hpa
    repeat' (first | ((first | refine EvF.ret (hpa _) ?_ | refine EvRF.ret (hpa _) ?_); simp only [w3, aw21, awH, ↓awD, awP, Nat.reduceLeDiff, Nat.reduceEqDiff, Nat.reduceAdd, Int.reduceLT, Int.reduceLE, Int.reduceEq]) | (refine BrF.mk (fun hb => ?_) (fun hb => ?_) <;> (try rw [hb]) <;> simp only [w3, aw21, awH, ↓awD, awP, Nat.reduceLeDiff, Nat.reduceEqDiff, Nat.reduceAdd, Int.reduceLT, Int.reduceLE, Int.reduceEq]))
    all_goals (simp only [*, if_true, if_false, Bool.false_eq_true] at hv)
    · subst hv; exact Fin.end hcl rfl (by first | rfl | exact (List.append_nil _).symm | (simp only [List.append_assoc]; rfl)) ⟨rfl, rfl⟩
    · exact ⟨(i + 1, ()), ⟨hi, hv⟩, by simp only; omega, weak_of (rfl) (by simp [look])⟩
  · rintro _ hv e1
    rw [drop_len] at hv
    unfold idx at hv
    subst hv
    simp only [e1, awH, ↓awD, awP, Nat.reduceLeDiff, Nat.reduceEqDiff, Nat.reduceAdd, Int.reduceLT, Int.reduceLE, Int.reduceEq]
    exact Fin.end hcl rfl (by first | rfl | exact (List.append_nil _).symm | (simp only [List.append_assoc]; rfl)) ⟨rfl, rfl⟩

def ac98 : ACode := (.seq (.region [oq 4 (.move (.const (.slice none 0 0)))]) (.seq (.region [oq 8 (qm 0), oq 9 (qm 1), oq 10 (.call (.func 89) [((tq 8), false), ((tq 9), false)]), oq 5 (qm 10)]) (.seq (.seq (.region [oq 11 (qm 5), oq 12 (.bin .eql (tq 11) (.const (.int .i64 (-1))))]) (.cond (tq 12) (.seq (.region [oq 13 (qm 0), oq 4 (qm 13)]) .ret) .skip)) (.seq (.seq (.region [oq 14 (qm 5), oq 15 (.bin .add (tq 14) (ci 1)), oq 6 (qm 15)]) (.block 0 (.loop (.seq (.seq (.region [oq 16 (qm 6), oq 17 (qm 0), oq 18 (qn 17), oq 19 (.bin .lss (tq 16) (tq 18))]) (.cond (tq 19) .skip (.exit 0))) (.seq (.block 1 (.seq (.region [oq 22 (qm 0), oq 23 (qm 6), oq 24 (qx 2 22 23), oq 25 (qs 2 24), oq 7 (.alloc [zi, zi]), oz (.store 2 (tq 7) (tq 25))]) (.seq (.region [oq 26 (qm 1), oq 27 (qs 2 7), oq 28 (.call (tq 26) [((tq 27), false)]), oq 29 (.un .not (tq 28))]) (.cond (tq 29) (.seq (.region [oq 30 (qm 0), oq 31 (qm 5), oq 32 (qs 2 7), oq 33 (qx 2 30 31), oz (.store 2 (tq 33) (tq 32))]) (.region [oq 34 (qm 5), oq 35 (.bin .add (tq 34) (ci 1)), oq 5 (qm 35)])) .skip)))) (.region [oq 20 (qm 6), oq 21 (.bin .add (tq 20) (ci 1)), oq 6 (qm 21)])))))) (.seq (.region [oq 36 (qm 0), oq 37 (qm 5), oq 38 (.slice 2 (tq 36) (some (tq 37)) none), oz (.clearS 2 [zi, zi] (tq 38))]) (.seq (.region [oq 39 (qm 0), oq 40 (qm 5), oq 41 (.slice 2 (tq 39) none (some (tq 40))), oq 4 (qm 41)]) .ret))))))
theorem c98 : cfn E0.P [] Tryz.f98 = some (ac98, [(.tmp 4)], 42) := by kernel_rfl

theorem idx_before {α : Type} (p : α → Bool) : ∀ (l : List α) (i k : Nat), idx p l i = ((i + k : Nat) : Int) → k < l.length → ∀ x, x ∈ l.take k → p x = false
  | [], i, k, h, hk => by simp at hk
  | a :: l, i, k, h, hk => by
    intro x hx
    cases k with
    | zero => simp at hx
    | succ k =>
      unfold idx at h
      cases hp : p a
      · rw [hp] at h
        simp only [Bool.false_eq_true, if_false] at h
        rw [List.take_succ_cons] at hx
        rcases List.mem_cons.1 hx with rfl | hx
        · exact hp
        · exact idx_before p l (i + 1) k (by rw [h]; omega) (by simpa using hk) x hx
      · rw [hp] at h
        simp only [if_true] at h
        omega
theorem dyn_set {z es : List AV} {cap k i : Nat} {x : AV} (hz : z.length = k) (hc : es.length ≤ cap) (hf : Fit k es) (hx : x.cells.length = k) (hi : i < es.length) : setMany (dynL z es cap) (i * k) x.cells = dynL z (es.set i x) cap := by
  have hle : i * k + k ≤ cap * k := by
    have := Nat.mul_le_mul_right k (show i + 1 ≤ cap by omega); rwa [Nat.add_mul, Nat.one_mul] at this
  rw [setMany_eq _ _ _ (by rw [dynL_len hf hz hc, hx]; exact hle)]
  have hft : Fit k (es.take i) := fun x hx => hf x (List.mem_of_mem_take hx)
  have hfe : es[i].cells.length = k := (hf _ (List.getElem_mem hi)).2
  have e1 : es = es.take i ++ es[i] :: es.drop (i + 1) := by rw [← List.drop_eq_getElem_cons hi, List.take_append_drop]
  have lt : (flatC (es.take i)).length = i * k := by rw [flatC_fit hft, List.length_take, Nat.min_eq_left (Nat.le_of_lt hi)]
  have h2 : dynL z es cap = flatC (es.take i) ++ (es[i].cells ++ (flatC (es.drop (i + 1)) ++ zerosL (cap - es.length) z)) := by
    rw [dynL]
    conv => lhs; lhs; rw [e1]
    rw [flatC_append, List.append_assoc]
    show _ ++ ((es[i].cells ++ flatC (es.drop (i + 1))) ++ _) = _
    rw [List.append_assoc]
  have h3 : (dynL z es cap).take (i * k) = flatC (es.take i) := by rw [h2, ← lt, List.take_left]
  have h4 : (dynL z es cap).drop (i * k + x.cells.length) = flatC (es.drop (i + 1)) ++ zerosL (cap - es.length) z := by
    rw [h2, hx, ← lt, ← List.drop_drop, List.drop_left, ← hfe, List.drop_left]
  rw [h3, h4, dynL, List.length_set, List.set_eq_take_append_cons_drop, if_pos hi, flatC_append]
  show _ = _ ++ (x.cells ++ flatC (es.drop (i + 1))) ++ _
  simp only [List.append_assoc]
theorem dyn_clear {z es : List AV} {cap k i : Nat} (hz : z.length = k) (hc : es.length ≤ cap) (hf : Fit k es) (hi : i ≤ es.length) : setMany (dynL z es cap) (i * k) (zerosL (es.length - i) z) = dynL z (es.take i) cap := by
  have hle : i * k + (es.length - i) * k ≤ cap * k := by rw [← Nat.add_mul]; exact Nat.mul_le_mul_right _ (by omega)
  rw [setMany_eq _ _ _ (by rw [dynL_len hf hz hc, zerosL_len, hz]; exact hle)]
  have hft : Fit k (es.take i) := fun x hx => hf x (List.mem_of_mem_take hx)
  have lt : (flatC (es.take i)).length = i * k := by rw [flatC_fit hft, List.length_take, Nat.min_eq_left hi]
  have hll : (flatC es).length = i * k + (es.length - i) * k := by rw [flatC_fit hf, ← Nat.add_mul]; congr 1; omega
  have h2 : flatC es = flatC (es.take i) ++ flatC (es.drop i) := by rw [← flatC_append, List.take_append_drop]
  have h3 : (dynL z es cap).take (i * k) = flatC (es.take i) := by rw [dynL, h2, List.append_assoc, ← lt, List.take_left]
  have h4 : (dynL z es cap).drop (i * k + (zerosL (es.length - i) z).length) = zerosL (cap - es.length) z := by
    rw [dynL, zerosL_len, hz, ← hll, List.drop_left]
  rw [h3, h4, dynL, List.length_take, Nat.min_eq_left hi, List.append_assoc, ← zerosL_add]
  congr 2; omega
theorem delete_ev (l : List Rg) (f : FuncId) (p : Rg → Bool) (P J : List AObj) (lo : Nat) (hlo : P.length = lo) (s : AV) (hs : SlotOk (P ++ J) lo z2 (l.map rgv) s) (hl : l.length < 2 ^ 40) (hp : ∀ x h, EvR E0 f [rgv x] h (boolv (p x))) :
    Ev E0 98 [s, .fn (.func f) [] []] (P ++ J) (fun r h' => ∃ s' J', r = .ret s' ∧ h' = P ++ J' ∧ SlotOk h' lo z2 ((l.filter fun x => !p x).map rgv) s') := by
  refine ev_of (fn := Tryz.f98) (hs := []) Tryz.func98 c98 (by simp) fun hcl => ?_
  have os := hs.one
  rcases hs with ⟨rfl, he⟩ | ⟨id, cap, rfl, h2, h3, h4⟩
  · have hnil : l = [] := by simpa using he
    subst hnil
    have hix : ∀ h, EvR E0 89 [.sl .full [], .fn (.func f) [] []] h (i64 (-1)) := fun h => (rg_idx [] f [] p h (by simp) (fun s hs => by simp at hs)).high rfl
    simp only [ac98, awH, ↓awD, awP, Nat.reduceLeDiff, Nat.reduceEqDiff, Nat.reduceAdd, Int.reduceLT, Int.reduceLE, Int.reduceEq]
    ((first | refine EvF.ret (hix _) ?_ | refine EvRF.ret (hix _) ?_); simp only [aw21, aw21, awH, ↓awD, awP, Nat.reduceLeDiff, Nat.reduceEqDiff, Nat.reduceAdd, Int.reduceLT, Int.reduceLE, Int.reduceEq])
    exact Fin.all (Nat.le_refl _) ⟨_, J, rfl, rfl, .inl ⟨rfl, rfl⟩⟩
  · rw [List.length_map] at h3 ⊢
    have hix := rgIdxW l f p (P ++ J) id cap h2 (by omega) hp
    simp only [ac98, awH, ↓awD, awP, Nat.reduceLeDiff, Nat.reduceEqDiff, Nat.reduceAdd, Int.reduceLT, Int.reduceLE, Int.reduceEq]
    ((first | refine EvF.ret (hix) ?_ | refine EvRF.ret (hix) ?_); simp only [aw21, aw21, awH, ↓awD, awP, Nat.reduceLeDiff, Nat.reduceEqDiff, Nat.reduceAdd, Int.reduceLT, Int.reduceLE, Int.reduceEq])
    rcases idx_find p l 0 with ⟨e1, e2⟩ | ⟨k, a, e0, e1, e2⟩
    · have z0 : decide ((-1 : Int) = -1) = true := rfl
      simp only [e2, z0, awH, ↓awD, awP, Nat.reduceLeDiff, Nat.reduceEqDiff, Nat.reduceAdd, Int.reduceLT, Int.reduceLE, Int.reduceEq]
      have hfl : (l.filter fun x => !p x) = l := List.filter_eq_self.2 fun x hx => by simpa using List.find?_eq_none.1 e1 x hx
      rw [hfl]
      exact Fin.all (Nat.le_refl _) ⟨_, J, rfl, rfl, .inr ⟨id, cap, by rw [List.length_map], h2, by rw [List.length_map]; exact h3, h4⟩⟩
    · rw [Nat.zero_add] at e2
      have z0 : decide ((k : Int) = -1) = false := by simp
      have hk := lt_len e0
      have w1 : IntKind.i64.wrap ((k : Int) + 1) = ((k + 1 : Nat) : Int) := by rw [wrap_i64] <;> omega
      simp only [e2, z0, w1, awH, ↓awD, awP, Nat.reduceLeDiff, Nat.reduceEqDiff, Nat.reduceAdd, Int.reduceLT, Int.reduceLE, Int.reduceEq]
      have hK0 : ((l.take (k + 1)).filter fun x => !p x) = l.take k := by
        rw [List.take_add_one, e0, List.filter_append]
        have hpa : p a = true := List.find?_some e1
        have h1 : (l.take k).filter (fun x => !p x) = l.take k := List.filter_eq_self.2 fun x hx => by
          simpa using idx_before p l 0 k (by rw [e2, Nat.zero_add]) hk x hx
        rw [h1]; simp [hpa]
      refine LoopF.by (α := Nat × List AObj) (fun x => ⟨[(0, .vw id 0 l.length cap), (1, .fn (.func f) [] []), (5, i64 (((l.take x.1).filter fun x => !p x).length)), (6, i64 x.1)], P ++ x.2⟩) (fun x => l.length - x.1)
        (fun x => (x.1 ≤ l.length ∧ J.length ≤ x.2.length) ∧ (P ++ x.2)[id]? = some (.cells (dynL z2 ((((l.take x.1).filter fun x => !p x) ++ l.drop ((l.take x.1).filter fun x => !p x).length).map rgv) cap))) (k + 1, J) ⟨⟨by simp only; omega, Nat.le_refl _⟩, ?_⟩ (weak_of rfl ?_) ?_
      · rw [hK0, List.length_take, Nat.min_eq_left (Nat.le_of_lt hk), List.take_append_drop]; exact h2
      · simp only [hK0, List.length_take, Nat.min_eq_left (Nat.le_of_lt hk)]
        simp [look]
      · rintro ⟨j, J1⟩ ⟨⟨hj, hJ1⟩, hob⟩
        simp only at hj hJ1 hob
        simp only [awH, ↓awD, awP, Nat.reduceLeDiff, Nat.reduceEqDiff, Nat.reduceAdd, Int.reduceLT, Int.reduceLE, Int.reduceEq]
        refine BrF.mk (fun hb => ?_) (fun hb => ?_)
        · have hjl : j < l.length := by simp only [decide_eq_true_eq] at hb; omega
          have hKl : ((l.take j).filter fun x => !p x).length ≤ j := Nat.le_trans (List.length_filter_le _ _) (by rw [List.length_take]; exact Nat.min_le_left _ _)
          have hlt : (((l.take j).filter fun x => !p x) ++ l.drop ((l.take j).filter fun x => !p x).length).length = l.length := by
            rw [List.length_append, List.length_drop]; omega
          have ha : (((l.take j).filter fun x => !p x) ++ l.drop ((l.take j).filter fun x => !p x).length)[j]? = some l[j] := by
            rw [List.getElem?_append_right hKl, List.getElem?_drop, Nat.add_sub_cancel' hKl]; exact List.getElem?_eq_getElem hjl
          have hdl := dyn_cells (z := z2) (cap := cap) (fit_rgs _) (map_get rgv _ j _ ha)
          have hlen : j * 2 + 2 ≤ (dynL z2 ((((l.take j).filter fun x => !p x) ++ l.drop ((l.take j).filter fun x => !p x).length).map rgv) cap).length := by
            rw [dynL, List.length_append, flatC_fit (fit_rgs _), List.length_map, hlt]; omega
          have hpa := fun h => hp l[j] h
          simp only [rgv_eq] at hpa hdl
          simp only [AV.cells] at hdl
          generalize hM : dynL z2 ((((l.take j).filter fun x => !p x) ++ l.drop ((l.take j).filter fun x => !p x).length).map rgv) cap = M at *
          have hj0 : (0 : Int) ≤ j := by omega
          have hj1 : ((j : Int) : Int) < (l.length : Int) := by omega
          have w3 : IntKind.i64.wrap ((j : Int) + 1) = ((j + 1 : Nat) : Int) := by rw [wrap_i64] <;> omega
          have hobx : ∀ X, (P ++ J1 ++ X)[id]? = some (AObj.cells M) := fun X => by
            rw [List.getElem?_append_left (List.getElem?_eq_some_iff.1 hob).1]; exact hob
          simp only [hob, awH, ↓awD, awP, Nat.reduceLeDiff, Nat.reduceEqDiff, Nat.reduceAdd, Int.reduceLT, Int.reduceLE, Int.reduceEq]
          refine Need.mk ⟨hj0, hj1⟩ ?_
          simp only [hob, hdl, Int.toNat_natCast, awH, ↓awD, awP, Nat.reduceLeDiff, Nat.reduceEqDiff, Nat.reduceAdd, Int.reduceLT, Int.reduceLE, Int.reduceEq]
          refine Need.mk hlen ?_
          simp only [hob, hdl, Int.toNat_natCast, awH, ↓awD, awP, Nat.reduceLeDiff, Nat.reduceEqDiff, Nat.reduceAdd, Int.reduceLT, Int.reduceLE, Int.reduceEq]
          refine EvF.ret (hpa _) ?_
          cases hx : p l[j]
          · simp only [hob, hx, awH, ↓awD, awP, Nat.reduceLeDiff, Nat.reduceEqDiff, Nat.reduceAdd, Int.reduceLT, Int.reduceLE, Int.reduceEq]
            refine Need.mk ⟨by omega, by omega⟩ ?_
            simp only [hobx, Int.toNat_natCast, awH, ↓awD, awP, Nat.reduceLeDiff, Nat.reduceEqDiff, Nat.reduceAdd, Int.reduceLT, Int.reduceLE, Int.reduceEq]
            have hm2 : ((l.take j).filter fun x => !p x).length * 2 + 2 ≤ M.length := by omega
            refine Need.mk hm2 ?_
            have w4 : IntKind.i64.wrap ((((l.take j).filter fun x => !p x).length : Int) + 1) = ((((l.take j).filter fun x => !p x).length + 1 : Nat) : Int) := by rw [wrap_i64] <;> omega
            simp only [hobx, w3, w4, AV.cells, List.map_cons, List.map_nil, AV.strip, awH, ↓awD, awP, Nat.reduceLeDiff, Nat.reduceEqDiff, Nat.reduceAdd, Int.reduceLT, Int.reduceLE, Int.reduceEq]
            have hf1 : ((l.take (j + 1)).filter fun x => !p x) = ((l.take j).filter fun x => !p x) ++ [l[j]] := by
              rw [List.take_succ_eq_append_getElem hjl, List.filter_append]; simp [hx]
            have hset : ((l.take j).filter fun x => !p x) ++ [l[j]] ++ l.drop (((l.take j).filter fun x => !p x).length + 1) = (((l.take j).filter fun x => !p x) ++ l.drop ((l.take j).filter fun x => !p x).length).set ((l.take j).filter fun x => !p x).length l[j] := by
              rw [List.set_append_right _ _ (Nat.le_refl _), Nat.sub_self, List.drop_eq_getElem_cons (show ((l.take j).filter fun x => !p x).length < l.length by omega), List.set_cons_zero, List.append_assoc, List.singleton_append]
            have hds := dyn_set (z := z2) (cap := cap) (k := 2) (x := rgv l[j]) (es := (((l.take j).filter fun x => !p x) ++ l.drop ((l.take j).filter fun x => !p x).length).map rgv) (i := ((l.take j).filter fun x => !p x).length) rfl (by rw [List.length_map, hlt]; exact h3) (fit_rgs _) rfl (by rw [List.length_map, hlt]; omega)
            rw [hM, ← List.map_set] at hds
            refine ⟨(j + 1, (J1 ++ [AObj.cells [i64 l[j].lo, i64 l[j].hi]]).set (id - lo) (AObj.cells (setMany M (((l.take j).filter fun x => !p x).length * 2) (rgv l[j]).cells))), ⟨⟨hjl, by simp only [List.length_set, List.length_append]; omega⟩, ?_⟩, by simp only; omega, weak_of ?_ ?_⟩
            · simp only
              rw [hf1, List.length_append, List.length_singleton, hset, ← hds, ← hlo]
              rw [← List.set_append_right _ _ (by rw [hlo]; exact h4), ← List.append_assoc, List.getElem?_set_self]
              rw [List.length_append]; have := (List.getElem?_eq_some_iff.1 hob).1; omega
            · simp only
              rw [← hlo, ← List.set_append_right _ _ (by rw [hlo]; exact h4), ← List.append_assoc]
              rfl
            · simp only [hf1, List.length_append, List.length_singleton]
              simp [look]
          · simp only [hobx, hx, w3, awH, ↓awD, awP, Nat.reduceLeDiff, Nat.reduceEqDiff, Nat.reduceAdd, Int.reduceLT, Int.reduceLE, Int.reduceEq]
            have hf1 : ((l.take (j + 1)).filter fun x => !p x) = ((l.take j).filter fun x => !p x) := by
              rw [List.take_succ_eq_append_getElem hjl, List.filter_append]; simp [hx]
            refine ⟨(j + 1, J1 ++ [AObj.cells [i64 l[j].lo, i64 l[j].hi]]), ⟨⟨hjl, by simp only [List.length_append]; omega⟩, ?_⟩, by simp only; omega, weak_of ?_ ?_⟩
            · simp only
              rw [hf1, hM, ← List.append_assoc]; exact hobx _
            · simp only
              rw [← List.append_assoc]
            · simp only [hf1]
              simp [look]
        · have hje : j = l.length := by simp only [decide_eq_false_iff_not] at hb; omega
          subst hje
          rw [List.take_length] at hob
          have hKl : (l.filter fun x => !p x).length ≤ l.length := List.length_filter_le _ _
          have hlt : ((l.filter fun x => !p x) ++ l.drop (l.filter fun x => !p x).length).length = l.length := by
            rw [List.length_append, List.length_drop]; omega
          have hM2 : (dynL z2 (((l.filter fun x => !p x) ++ l.drop (l.filter fun x => !p x).length).map rgv) cap).length = cap * 2 := dynL_len (fit_rgs _) rfl (by rw [List.length_map, hlt]; exact h3)
          have hdc := dyn_clear (z := z2) (cap := cap) (k := 2) (es := ((l.filter fun x => !p x) ++ l.drop (l.filter fun x => !p x).length).map rgv) (i := (l.filter fun x => !p x).length) rfl (by rw [List.length_map, hlt]; exact h3) (fit_rgs _) (by rw [List.length_map, hlt]; exact hKl)
          rw [List.length_map, hlt, ← List.map_take, List.take_left] at hdc
          generalize hM : dynL z2 (((l.filter fun x => !p x) ++ l.drop (l.filter fun x => !p x).length).map rgv) cap = M at *
          simp only [List.take_length, hob, awH, ↓awD, awP, Nat.reduceLeDiff, Nat.reduceEqDiff, Nat.reduceAdd, Int.reduceLT, Int.reduceLE, Int.reduceEq]
          refine Need.mk ⟨by omega, by omega, by omega⟩ ?_
          simp only [hob, Int.toNat_natCast, awH, ↓awD, awP, Nat.reduceLeDiff, Nat.reduceEqDiff, Nat.reduceAdd, Int.reduceLT, Int.reduceLE, Int.reduceEq]
          have hlt2 : (l.filter fun x => !p x).length < l.length := by
            have := List.mem_of_find?_eq_some e1
            have hpa : p a = true := List.find?_some e1
            exact List.length_filter_lt_length_iff_exists.2 ⟨a, this, by simp [hpa]⟩
          have hoff : offAt 0 2 cap (l.filter fun x => !p x).length = (l.filter fun x => !p x).length * 2 := by
            unfold offAt; rw [if_neg (by omega)]; omega
          rw [hoff]
          refine Need.mk (by omega) ?_
          simp only [hob, Int.toNat_natCast, awH, ↓awD, awP, Nat.reduceLeDiff, Nat.reduceEqDiff, Nat.reduceAdd, Int.reduceLT, Int.reduceLE, Int.reduceEq]
          refine Need.mk ⟨by omega, by omega⟩ ?_
          simp only [offAt0, Int.toNat_zero, Nat.sub_zero, awH, ↓awD, awP, Nat.reduceLeDiff, Nat.reduceEqDiff, Nat.reduceAdd, Int.reduceLT, Int.reduceLE, Int.reduceEq]
          have hidl := (List.getElem?_eq_some_iff.1 hob).1
          refine Fin.all (by rw [List.length_set, List.length_append, List.length_append]; omega) ⟨_, J1.set (id - lo) (AObj.cells (dynL z2 ((l.filter fun x => !p x).map rgv) cap)), rfl, ?_, .inr ⟨id, cap, by rw [List.length_map], ?_, by rw [List.length_map]; omega, h4⟩⟩
          · rw [← hdc, ← hlo, ← List.set_append_right _ _ (by rw [hlo]; exact h4)]; rfl
          · rw [← hdc]
            exact List.getElem?_set_self hidl

def ac91 : ACode := (.seq (.region [oq 2 (.move (.const (.slice none 0 0)))]) (.seq (.region [oq 8 (qm 0), oq 9 (.call (.func 99) [((tq 8), false)]), oq 10 (.call (.func 98) [((tq 9), false), ((.func 100), false)]), oq 3 (qm 10)]) (.seq (.region [oq 11 (qm 3), oq 12 (.call (.func 101) [((tq 11), false), ((.func 102), false)])]) (.seq (.region [oq 4 (.move (.const (.slice none 0 0)))]) (.seq (.seq (.region [oq 13 (qm 3), oq 14 (qn 13), oq 15 (.move (ci 0))]) (.block 0 (.loop (.seq (.region [oq 16 (.bin .lss (tq 15) (tq 14))]) (.seq (.cond (tq 16) .skip (.exit 0)) (.seq (.block 1 (.seq (.region [oq 17 (qx 2 13 15), oq 18 (qs 2 17), oq 6 (.alloc [zi, zi]), oz (.store 2 (tq 6) (tq 18))]) (.seq (.seq (.region [oq 19 (qm 4), oq 20 (qn 19), oq 21 (.bin .sub (tq 20) (ci 1)), oq 7 (qm 21)]) (.seq (.draw [oq 22 (qm 7), oq 23 (.bin .geq (tq 22) (ci 0)), oq 24 (qm 23), og 25 (qm 4) 24 true, og 26 (qm 7) 24 true, og 27 (qx 2 25 26) 24 true, og 28 (qf 1 27) 24 true, og 29 (ql 28) 24 true, og 30 (.bin .eql (tq 29) (ci 9223372036854775807)) 24 true, og 31 (qm 30) 24 true, og 32 (qf 0 6) 31 false, og 33 (ql 32) 31 false, og 34 (qm 4) 31 false, og 35 (qm 7) 31 false, og 36 (qx 2 34 35) 31 false, og 37 (qf 1 36) 31 false, og 38 (ql 37) 31 false, og 39 (.bin .add (tq 38) (ci 1)) 31 false, og 40 (.bin .leq (tq 33) (tq 39)) 31 false, og 41 (.pick (tq 31) (cb true) (tq 40)) 24 true, oq 42 (.pick (tq 24) (tq 41) (cb false))]) (.cond (tq 42) (.seq (.seq (.draw [oq 43 (qm 4), oq 44 (qm 7), oq 45 (qm 4), oq 46 (qm 7), oq 47 (qx 2 45 46), oq 48 (qf 1 47), oq 49 (ql 48), oq 50 (qf 1 6), oq 51 (ql 50), oq 52 (.minmax true (tq 49) (tq 51)), oq 53 (qx 2 43 44), oq 54 (qf 1 53)]) (.region [oz (.store 1 (tq 54) (tq 52))])) (.exit 1)) .skip))) (.region [oq 55 (qm 4), oq 56 (qs 2 6), oq 57 (.buildSlice false 2 [zi, zi] 1 [(0, (tq 56))]), oq 58 (.appendO 2 16 [zi, zi] (tq 55) (tq 57)), oq 4 (qm 58)])))) (.region [oq 59 (.bin .add (tq 15) (ci 1)), oq 15 (qm 59)]))))))) (.seq (.region [oq 60 (qm 4), oq 2 (qm 60)]) .ret))))))
theorem c91 : cfn E0.P [(10,3),(9,1024)] Tryz.f91 = some (ac91, [(.tmp 2)], 61) := by kernel_rfl
def ac100 : ACode := (.seq (.region [oq 1 (.box (tq 0)), oq 2 (.move (cb false))]) (.seq (.region [oq 3 (qf 0 1), oq 4 (ql 3), oq 5 (qf 1 1), oq 6 (ql 5), oq 7 (.bin .gtr (tq 4) (tq 6)), oq 2 (qm 7)]) .ret))
theorem c100 : cfn E0.P [] Tryz.f100 = some (ac100, [(.tmp 2)], 8) := by kernel_rfl

def Rg.some (r : Rg) : Bool := !decide (r.hi < r.lo)
theorem norm1_ev (x : Rg) (h : List AObj) : EvR E0 100 [rgv x] h (boolv (!x.some)) := by
  refine ev_of (fn := Tryz.f100) (hs := []) Tryz.func100 c100 (by simp) fun hcl => ?_
  simp only [ac100, rgv_eq, awH, ↓awD, awP, Nat.reduceLeDiff, Nat.reduceEqDiff, Nat.reduceAdd, Int.reduceLT, Int.reduceLE, Int.reduceEq]
  exact Fin.end hcl rfl (by first | rfl | exact (List.append_nil _).symm | (simp only [List.append_assoc]; rfl)) ⟨by simp [Rg.some], rfl⟩

def Nrm (l out : List Rg) : Prop := (l = [] → out = []) ∧ (∀ a, l.head? = .some a → (∃ b, out.head? = .some b ∧ b.lo = a.lo)) ∧ (l ≠ [] → ∃ b, out.getLast? = .some b ∧ (∃ x, x ∈ l ∧ x.hi = b.hi) ∧ ∀ x, x ∈ l → x.hi ≤ b.hi)
def loLe (a b : Rg) : Prop := a.lo ≤ b.lo
theorem Nrm.app {l out : List Rg} {i : Nat} {x : Rg} (h : Nrm (l.take i) out) (hx : l[i]? = .some x) (hs : x.some = true) (ho : out = [] ∨ ∃ b, out.getLast? = .some b ∧ b.hi < x.lo) : Nrm (l.take (i + 1)) (out ++ [x]) := by
  have e : l.take (i + 1) = l.take i ++ [x] := by rw [List.take_add_one, hx]; rfl
  have hle : x.lo ≤ x.hi := by simpa [Rg.some] using hs
  obtain ⟨h1, h2, h3⟩ := h
  rw [e]
  refine ⟨fun hn => by simp at hn, fun a ha => ?_, fun _ => ⟨x, by simp, ⟨x, by simp, rfl⟩, fun y hy => ?_⟩⟩
  · cases hc : l.take i with
    | nil =>
      rw [hc] at ha h1
      rw [h1 rfl]
      exact ⟨a, by simpa using ha, rfl⟩
    | cons z r =>
      rw [hc] at ha h2
      obtain ⟨b, hb, hbl⟩ := h2 a (by simpa using ha)
      exact ⟨b, by rw [List.head?_append, hb]; rfl, hbl⟩
  · rcases List.mem_append.1 hy with hy | hy
    · have hne : l.take i ≠ [] := fun h => by rw [h] at hy; cases hy
      obtain ⟨b, hb, _, hm⟩ := h3 hne
      rcases ho with rfl | ⟨b2, hb2, hlt⟩
      · simp at hb
      · rw [hb] at hb2; cases hb2
        have := hm y hy
        omega
    · simp at hy; subst hy; exact Int.le_refl _
theorem Nrm.mrg {l init : List Rg} {b b' : Rg} {i : Nat} {x : Rg} (h : Nrm (l.take i) (init ++ [b])) (hx : l[i]? = .some x) (hlo : b'.lo = b.lo) (hhi : b'.hi = max b.hi x.hi) : Nrm (l.take (i + 1)) (init ++ [b']) := by
  have e : l.take (i + 1) = l.take i ++ [x] := by rw [List.take_add_one, hx]; rfl
  obtain ⟨h1, h2, h3⟩ := h
  have hne : l.take i ≠ [] := fun h => by have := h1 h; simp at this
  rw [e]
  refine ⟨fun hn => by simp at hn, fun a ha => ?_, fun _ => ⟨b', by simp, ?_, fun y hy => ?_⟩⟩
  · cases hc : l.take i with
    | nil => exact absurd hc hne
    | cons z r =>
      rw [hc] at ha h2
      obtain ⟨c, hb, hbl⟩ := h2 a (by simpa using ha)
      cases init with
      | nil => simp at hb; subst hb; exact ⟨b', rfl, by rw [hlo]; exact hbl⟩
      | cons q r => exact ⟨c, by simpa using hb, hbl⟩
  · obtain ⟨c, hc, ⟨y, hy, hyc⟩, hm⟩ := h3 hne
    have : c = b := by simpa using hc.symm
    subst this
    rcases Int.le_total c.hi x.hi with hh | hh
    · exact ⟨x, by simp, by rw [hhi]; omega⟩
    · exact ⟨y, List.mem_append_left _ hy, by rw [hhi, hyc]; omega⟩
  · obtain ⟨c, hc, _, hm⟩ := h3 hne
    have : c = b := by simpa using hc.symm
    subst this
    rw [hhi]
    rcases List.mem_append.1 hy with hy | hy
    · have := hm y hy; omega
    · simp at hy; subst hy; omega
theorem dyn_hi {init : List Rg} {b b' : Rg} {capo : Nat} (hlo : b'.lo = b.lo) : (dynL z2 ((init ++ [b]).map rgv) capo).set (init.length * 2 + 1) (i64 b'.hi) = dynL z2 ((init ++ [b']).map rgv) capo := by
  have hl : (flatC (init.map rgv)).length = init.length * 2 := by rw [flatC_fit (fit_rgs _), List.length_map]
  have e : ∀ c : Rg, dynL z2 ((init ++ [c]).map rgv) capo = flatC (init.map rgv) ++ ([i64 c.lo, i64 c.hi] ++ zerosL (capo - (init.length + 1)) z2) := fun c => by
    rw [dynL, List.map_append, flatC_append, List.append_assoc]
    simp [flatC, rgv, AV.cells]
  rw [e, e, List.set_append_right _ _ (by omega), hl, hlo]
  rw [show init.length * 2 + 1 - init.length * 2 = 1 by omega]
  rfl
theorem norm_ev (l : List Rg) (hl : l.length < 2 ^ 40) (h : List AObj)
    (hsort : ∀ (l : List Rg) (P J : List AObj) (lo : Nat) (s : AV), P.length = lo → SlotOk (P ++ J) lo z2 (l.map rgv) s → l.length < 2 ^ 40 →
      Ev E0 101 [s, .fn (.func 102) [] []] (P ++ J) (fun r h' => r = .ret (.tup []) ∧ ∃ (J' : List AObj) (l' : List Rg), h' = P ++ J' ∧ l'.Perm l ∧ l'.Pairwise loLe ∧ SlotOk h' lo z2 (l'.map rgv) s)) :
    Ev E0 91 [rgl l] h (fun r h' => ∃ (s : AV) (J : List AObj) (l' out : List Rg), r = .ret s ∧ h' = h ++ J ∧ SlotOk h' h.length z2 (out.map rgv) s ∧ l'.Perm (l.filter (·.some)) ∧ l'.Pairwise loLe ∧ Nrm l' out ∧ out.length ≤ l'.length) := by
  refine ev_of (fn := Tryz.f91) (hs := [(10,3),(9,1024)]) Tryz.func91 c91 (by simp) fun hcl => ?_
  simp only [ac91, awH, ↓awD, awP, Nat.reduceLeDiff, Nat.reduceEqDiff, Nat.reduceAdd, Int.reduceLT, Int.reduceLE, Int.reduceEq]
  refine EvF.use (clone_ev l hl h) ?_
  rintro r h' ⟨s, J, rfl, rfl, hs⟩
  have os := hs.one
  simp only [os, awH, ↓awD, awP, Nat.reduceLeDiff, Nat.reduceEqDiff, Nat.reduceAdd, Int.reduceLT, Int.reduceLE, Int.reduceEq]
  refine EvF.use (delete_ev l 100 (fun x => !x.some) h J h.length rfl s hs hl norm1_ev) ?_
  rintro r h' ⟨s1, J1, rfl, rfl, hs1⟩
  have hf : (l.filter fun x => !(!x.some)) = l.filter (·.some) := by congr 1; funext x; simp
  rw [hf] at hs1
  have hlf : (l.filter (·.some)).length < 2 ^ 40 := Nat.lt_of_le_of_lt (List.length_filter_le _ _) hl
  have os1 := hs1.one
  simp only [os1, awH, ↓awD, awP, Nat.reduceLeDiff, Nat.reduceEqDiff, Nat.reduceAdd, Int.reduceLT, Int.reduceLE, Int.reduceEq]
  refine EvF.use (hsort _ h J1 h.length s1 rfl hs1 hlf) ?_
  rintro r h' ⟨rfl, J2, l', rfl, hperm, hpw, hs2⟩
  have hsome : ∀ x, x ∈ l' → x.some = true := fun x hx => (List.mem_filter.1 (hperm.mem_iff.1 hx)).2
  have hll : l'.length < 2 ^ 40 := by rw [hperm.length_eq]; exact hlf
  clear hs hs1 os os1
  rcases hs2 with ⟨rfl, he⟩ | ⟨id, cap, rfl, h2, h3, h4⟩
  · have hnil : l' = [] := by simpa using he
    subst hnil
    simp only [awH, ↓awD, awP, Nat.reduceLeDiff, Nat.reduceEqDiff, Nat.reduceAdd, Int.reduceLT, Int.reduceLE, Int.reduceEq]
    refine LoopF.by (α := Unit) (fun _ => ⟨[(4, .sl .full []), (13, .sl .full []), (14, i64 0), (15, i64 0)], h ++ J2⟩) (fun _ => 0) (fun _ => True) () trivial (weak_of rfl (by simp [look])) ?_
    rintro _ _
    simp only [awH, ↓awD, awP, Nat.reduceLeDiff, Nat.reduceEqDiff, Nat.reduceAdd, Int.reduceLT, Int.reduceLE, Int.reduceEq]
    exact Fin.all (by rw [List.length_append]; omega) ⟨_, J2, [], [], rfl, rfl, .inl ⟨rfl, rfl⟩, hperm, hpw, ⟨fun _ => rfl, fun a ha => by simp at ha, fun hn => absurd rfl hn⟩, Nat.le_refl _⟩
  · rw [List.length_map] at h3 ⊢
    have os := (⟨rfl, rfl, rfl, rfl⟩ : AV.sure (.vw id 0 l'.length cap) = true ∧ AV.cells (.vw id 0 l'.length cap) = [.vw id 0 l'.length cap] ∧ AV.strip (.vw id 0 l'.length cap) = .vw id 0 l'.length cap ∧ AV.one (.vw id 0 l'.length cap) = true)
    simp only [awH, ↓awD, awP, Nat.reduceLeDiff, Nat.reduceEqDiff, Nat.reduceAdd, Int.reduceLT, Int.reduceLE, Int.reduceEq]
    refine LoopF.by (α := Nat × AV × List AObj × List Rg) (fun x => ⟨[(4, x.2.1), (13, .vw id 0 l'.length cap), (14, i64 l'.length), (15, i64 x.1)], h ++ x.2.2.1⟩) (fun x => l'.length - x.1)
      (fun x => x.1 ≤ l'.length ∧ (h ++ x.2.2.1)[id]? = .some (.cells (dynL z2 (l'.map rgv) cap)) ∧ (∀ a b, x.2.1 ≠ .vw id 0 a b) ∧ Nrm (l'.take x.1) x.2.2.2 ∧ x.2.2.2.length ≤ x.1 ∧
        ((x.2.1 = .sl .full [] ∧ x.2.2.2 = []) ∨ (x.2.2.2 ≠ [] ∧ ∃ ido capo, x.2.1 = .vw ido 0 x.2.2.2.length capo ∧ (h ++ x.2.2.1)[ido]? = .some (.cells (dynL z2 (x.2.2.2.map rgv) capo)) ∧ x.2.2.2.length ≤ capo ∧ h.length ≤ ido))) (0, .sl .full [], J2, []) ?_ (weak_of rfl (by simp [look])) ?_
    · exact ⟨Nat.zero_le _, h2, fun _ _ => by simp, ⟨fun _ => rfl, fun a ha => by simp at ha, fun hn => absurd rfl hn⟩, Nat.le_refl _, .inl ⟨rfl, rfl⟩⟩
    · rintro ⟨i, o, J, out⟩ ⟨hi, hob, hap, hN, hol, hslot⟩
      simp only at hi hob hap hN hol hslot
      simp only [awH, ↓awD, awP, Nat.reduceLeDiff, Nat.reduceEqDiff, Nat.reduceAdd, Int.reduceLT, Int.reduceLE, Int.reduceEq]
      refine BrF.mk (fun hb => ?_) (fun hb => ?_)
      · have hil : i < l'.length := by simp only [decide_eq_true_eq] at hb; omega
        have hdl := dyn_cells (z := z2) (cap := cap) (fit_rgs _) (map_get rgv l' i _ (List.getElem?_eq_getElem hil))
        have hlen : i * 2 + 2 ≤ (dynL z2 (l'.map rgv) cap).length := by
          rw [dynL, List.length_append, flatC_fit (fit_rgs _), List.length_map]; omega
        simp only [rgv_eq, AV.cells] at hdl
        have hobx : ∀ X, (h ++ J ++ X)[id]? = .some (AObj.cells (dynL z2 (l'.map rgv) cap)) := fun X => by
          rw [List.getElem?_append_left (List.getElem?_eq_some_iff.1 hob).1]; exact hob
        have w3 : IntKind.i64.wrap ((i : Int) + 1) = ((i + 1 : Nat) : Int) := by rw [wrap_i64] <;> omega
        simp only [hob, awH, ↓awD, awP, Nat.reduceLeDiff, Nat.reduceEqDiff, Nat.reduceAdd, Int.reduceLT, Int.reduceLE, Int.reduceEq]
        refine Need.mk ⟨by omega, by omega⟩ ?_
        simp only [hob, hdl, Int.toNat_natCast, awH, ↓awD, awP, Nat.reduceLeDiff, Nat.reduceEqDiff, Nat.reduceAdd, Int.reduceLT, Int.reduceLE, Int.reduceEq]
        refine Need.mk hlen ?_
        simp only [hob, hdl, Int.toNat_natCast, awH, ↓awD, awP, Nat.reduceLeDiff, Nat.reduceEqDiff, Nat.reduceAdd, Int.reduceLT, Int.reduceLE, Int.reduceEq]
        rcases hslot with ⟨rfl, rfl⟩ | ⟨hne, ido, capo, rfl, q2, q3, q4⟩
        · have wm1 : IntKind.i64.wrap (0 - 1) = -1 := rfl
          have dm1 : decide ((0 : Int) ≤ -1) = false := rfl
          simp only [hobx, wm1, dm1, getJ, setJ, awH, ↓awD, awP, Nat.reduceLeDiff, Nat.reduceEqDiff, Nat.reduceAdd, Int.reduceLT, Int.reduceLE, Int.reduceEq]
          (refine Need.mk (by simp only [litParts, List.mem_cons, List.not_mem_nil, or_false, forall_eq_or_imp, forall_eq]; refine ⟨by decide, by decide, by decide, ?_⟩; repeat' (first | exact ⟨rfl, rfl, rfl⟩ | rfl | constructor)) ?_; simp only [getJ, awH, ↓awD, awP, Nat.reduceLeDiff, Nat.reduceEqDiff, Nat.reduceAdd, Int.reduceLT, Int.reduceLE, Int.reduceEq])
          rw [List.append_assoc]
          refine AppO.use (z := z2) (P := h) (J := J ++ [AObj.cells [i64 l'[i].lo, i64 l'[i].hi]]) (lo := h.length) (es := []) rfl rfl (.inl ⟨rfl, rfl⟩) (by decide) rfl (fun e he => by cases he) (fit_rgs [l'[i]]) (one_rgs [l'[i]]) rfl (strip_rgs [l'[i]]) (by simp) (by simp) (by simp) fun J' s' hs' hfr hhe => ?_
          have os' := hs'.one
          simp only [os', w3, awH, ↓awD, awP, Nat.reduceLeDiff, Nat.reduceEqDiff, Nat.reduceAdd, Int.reduceLT, Int.reduceLE, Int.reduceEq]
          refine ⟨(i + 1, s', J', [l'[i]]), ⟨hil, hfr id _ (by rw [← List.append_assoc]; exact hobx _) (fun a b hh => by cases hh), fun a b hh => ?_, hN.app (List.getElem?_eq_getElem hil) (hsome _ (List.getElem_mem hil)) (.inl rfl), by simp, .inr ⟨by simp, ?_⟩⟩, by simp only; omega, weak_of rfl (by simp [look])⟩
          · have := hhe id a b hh
            rcases this with ⟨a', b', hh⟩ | hh
            · cases hh
            · have := (List.getElem?_eq_some_iff.1 hob).1
              simp only [List.length_append] at hh this; omega
          · rcases hs' with ⟨_, hh⟩ | ⟨i2, c2, e2, e3, e4, e5⟩
            · simp at hh
            · exact ⟨i2, c2, e2, e3, e4, e5⟩
        · obtain ⟨init, b, rfl⟩ : ∃ init b, out = init ++ [b] := by
            rcases List.eq_nil_or_concat out with h | ⟨a, b, h⟩
            · exact absurd h hne
            · exact ⟨a, b, by simpa using h⟩
          have hbm : (init ++ [b]).length = init.length + 1 := by simp
          rw [hbm] at q3 hol hap ⊢
          have wk : IntKind.i64.wrap (((init.length + 1 : Nat) : Int) - 1) = ((init.length : Nat) : Int) := by rw [wrap_i64] <;> omega
          have dk : decide ((0 : Int) ≤ (init.length : Int)) = true := by simp
          have q2x : ∀ X, (h ++ J ++ X)[ido]? = .some (AObj.cells (dynL z2 ((init ++ [b]).map rgv) capo)) := fun X => by
            rw [List.getElem?_append_left (List.getElem?_eq_some_iff.1 q2).1]; exact q2
          have hl2 : (dynL z2 ((init ++ [b]).map rgv) capo).length = capo * 2 := dynL_len (fit_rgs _) rfl (by rw [List.length_map, hbm]; exact q3)
          have hc1 : (dynL z2 ((init ++ [b]).map rgv) capo)[init.length * 2 + 1]? = .some (i64 b.hi) := by
            have h0 := dyn_cells (z := z2) (cap := capo) (fit_rgs _) (map_get rgv (init ++ [b]) init.length b (by simp))
            have h1 : (((dynL z2 ((init ++ [b]).map rgv) capo).drop (init.length * 2)).take 2)[1]? = .some (i64 b.hi) := by rw [h0]; rfl
            rw [List.getElem?_take_of_lt (by omega), List.getElem?_drop] at h1
            exact h1
          have hk1 : init.length * 2 + 1 < (dynL z2 ((init ++ [b]).map rgv) capo).length := by rw [hl2]; omega
          have hInR := b.ok.2
          unfold InR at hInR
          simp only [hobx, q2x, wk, dk, getJ, setJ, awH, ↓awD, awP, Nat.reduceLeDiff, Nat.reduceEqDiff, Nat.reduceAdd, Int.reduceLT, Int.reduceLE, Int.reduceEq]
          refine Need.mk ⟨by omega, by omega⟩ ?_
          simp only [hobx, q2x, Int.toNat_natCast, hc1, wk, dk, getJ, setJ, awH, ↓awD, awP, Nat.reduceLeDiff, Nat.reduceEqDiff, Nat.reduceAdd, Int.reduceLT, Int.reduceLE, Int.reduceEq]
          cases hm : decide (b.hi = 9223372036854775807)
          · have wq : IntKind.i64.wrap (b.hi + 1) = b.hi + 1 := by
              rw [decide_eq_false_iff_not] at hm
              rw [wrap_i64] <;> omega
            simp only [hobx, q2x, Int.toNat_natCast, hc1, wk, dk, hm, wq, getJ, setJ, awH, ↓awD, awP, Nat.reduceLeDiff, Nat.reduceEqDiff, Nat.reduceAdd, Int.reduceLT, Int.reduceLE, Int.reduceEq]
            refine Need.mk ⟨by omega, by omega⟩ ?_
            simp only [hobx, q2x, Int.toNat_natCast, hc1, wk, dk, hm, wq, getJ, setJ, awH, ↓awD, awP, Nat.reduceLeDiff, Nat.reduceEqDiff, Nat.reduceAdd, Int.reduceLT, Int.reduceLE, Int.reduceEq]
            (refine BrF.mk (fun hb => ?_) (fun hb => ?_) <;> (try rw [hb]) <;> simp only [hobx, q2x, hc1, wk, dk, hm, wq, aw21, awH, ↓awD, awP, Nat.reduceLeDiff, Nat.reduceEqDiff, Nat.reduceAdd, Int.reduceLT, Int.reduceLE, Int.reduceEq])
            · refine Need.mk ⟨by omega, by omega⟩ ?_
              simp only [hobx, q2x, Int.toNat_natCast, hc1, wk, dk, hm, getJ, setJ, awH, ↓awD, awP, Nat.reduceLeDiff, Nat.reduceEqDiff, Nat.reduceAdd, Int.reduceLT, Int.reduceLE, Int.reduceEq]
              refine Need.mk ⟨by omega, by omega⟩ ?_
              simp only [hobx, q2x, Int.toNat_natCast, hc1, wk, dk, hm, getJ, setJ, awH, ↓awD, awP, Nat.reduceLeDiff, Nat.reduceEqDiff, Nat.reduceAdd, Int.reduceLT, Int.reduceLE, Int.reduceEq]
              obtain ⟨b', hb1, hb2⟩ : ∃ b' : Rg, b'.lo = b.lo ∧ b'.hi = max b.hi l'[i].hi := ⟨⟨b.lo, max b.hi l'[i].hi, b.ok.1, by have h1 := b.ok.2; have h2 := l'[i].ok.2; unfold InR at h1 h2 ⊢; omega⟩, rfl, rfl⟩
              have hmx : (if l'[i].hi > b.hi then l'[i].hi else b.hi) = b'.hi := by rw [hb2]; split <;> omega
              refine Need.mk (by omega) ?_
              simp only [hmx, w3, awH, ↓awD, awP, Nat.reduceLeDiff, Nat.reduceEqDiff, Nat.reduceAdd, Int.reduceLT, Int.reduceLE, Int.reduceEq]
              have hdh := dyn_hi (init := init) (capo := capo) hb1
              have hob2 : (h ++ J ++ [AObj.cells [i64 l'[i].lo, i64 l'[i].hi]])[id]? = .some (AObj.cells (dynL z2 (l'.map rgv) cap)) := hobx _
              have hidne : ido ≠ id := fun hh => hap _ _ (by rw [hh])
              have hlt1 := (List.getElem?_eq_some_iff.1 q2).1
              refine ⟨(i + 1, .vw ido 0 (init.length + 1) capo, (J ++ [AObj.cells [i64 l'[i].lo, i64 l'[i].hi]]).set (ido - h.length) (.cells (dynL z2 ((init ++ [b']).map rgv) capo)), init ++ [b']), ⟨hil, ?_, fun a b hh => hap a b (by rw [← hh]), hN.mrg (List.getElem?_eq_getElem hil) hb1 hb2, by simp; omega, .inr ⟨by simp, ido, capo, by simp, ?_, by simpa using q3, q4⟩⟩, by simp only; omega, weak_of ?_ (by simp [look])⟩
              · simp only
                rw [← List.set_append_right _ _ q4, ← List.append_assoc, List.getElem?_set_ne hidne]; exact hob2
              · simp only
                rw [← List.set_append_right _ _ q4, ← List.append_assoc, List.getElem?_set_self (by rw [List.length_append]; omega)]
              · simp only
                rw [← List.set_append_right _ _ q4, ← List.append_assoc, ← hdh]
            · (refine Need.mk (by simp only [litParts, List.mem_cons, List.not_mem_nil, or_false, forall_eq_or_imp, forall_eq]; refine ⟨by decide, by decide, by decide, ?_⟩; repeat' (first | exact ⟨rfl, rfl, rfl⟩ | rfl | constructor)) ?_; simp only [getJ, awH, ↓awD, awP, Nat.reduceLeDiff, Nat.reduceEqDiff, Nat.reduceAdd, Int.reduceLT, Int.reduceLE, Int.reduceEq])
              rw [List.append_assoc]
              have hbx : b.hi < l'[i].lo := by have hb3 := hb; simp only [decide_eq_false_iff_not] at hb3; omega
              refine AppO.use (z := z2) (P := h) (J := J ++ [AObj.cells [i64 l'[i].lo, i64 l'[i].hi]]) (lo := h.length) (es := (init ++ [b]).map rgv) rfl rfl (.inr ⟨ido, capo, by rw [List.length_map, hbm], by rw [← List.append_assoc]; exact q2x _, by rw [List.length_map, hbm]; exact q3, q4⟩) (by decide) rfl (fit_rgs _) (fit_rgs [l'[i]]) (one_rgs [l'[i]]) (strip_rgs _) (strip_rgs [l'[i]]) (by simp; omega) (by simp; omega) (by simp) fun J' s' hs' hfr hhe => ?_
              have os' := hs'.one
              simp only [os', w3, awH, ↓awD, awP, Nat.reduceLeDiff, Nat.reduceEqDiff, Nat.reduceAdd, Int.reduceLT, Int.reduceLE, Int.reduceEq]
              refine ⟨(i + 1, s', J', init ++ [b] ++ [l'[i]]), ⟨hil, hfr id _ (by rw [← List.append_assoc]; exact hobx _) (fun a b hh => hap a b (by rw [← hh])), fun a b hh => ?_, hN.app (List.getElem?_eq_getElem hil) (hsome _ (List.getElem_mem hil)) (.inr ⟨b, by simp, hbx⟩), by simp; omega, .inr ⟨by simp, ?_⟩⟩, by simp only; omega, weak_of rfl (by simp [look])⟩
              · have := hhe id a b hh
                rcases this with ⟨a', b', hh⟩ | hh
                · exact hap _ _ hh
                · have := (List.getElem?_eq_some_iff.1 hob).1
                  simp only [List.length_append] at hh this; omega
              · have hs2 : SlotOk (h ++ J') h.length z2 ((init ++ [b] ++ [l'[i]]).map rgv) s' := by rw [List.map_append]; exact hs'
                rcases hs2 with ⟨_, hh⟩ | ⟨i2, c2, e2, e3, e4, e5⟩
                · simp at hh
                · exact ⟨i2, c2, by simpa using e2, e3, by simpa using e4, e5⟩
          · simp only [hobx, q2x, Int.toNat_natCast, hc1, wk, dk, hm, getJ, setJ, awH, ↓awD, awP, Nat.reduceLeDiff, Nat.reduceEqDiff, Nat.reduceAdd, Int.reduceLT, Int.reduceLE, Int.reduceEq]
            refine Need.mk ⟨by omega, by omega⟩ ?_
            simp only [hobx, q2x, Int.toNat_natCast, hc1, wk, dk, hm, getJ, setJ, awH, ↓awD, awP, Nat.reduceLeDiff, Nat.reduceEqDiff, Nat.reduceAdd, Int.reduceLT, Int.reduceLE, Int.reduceEq]
            refine Need.mk ⟨by omega, by omega⟩ ?_
            simp only [hobx, q2x, Int.toNat_natCast, hc1, wk, dk, hm, getJ, setJ, awH, ↓awD, awP, Nat.reduceLeDiff, Nat.reduceEqDiff, Nat.reduceAdd, Int.reduceLT, Int.reduceLE, Int.reduceEq]
            obtain ⟨b', hb1, hb2⟩ : ∃ b' : Rg, b'.lo = b.lo ∧ b'.hi = max b.hi l'[i].hi := ⟨⟨b.lo, max b.hi l'[i].hi, b.ok.1, by have h1 := b.ok.2; have h2 := l'[i].ok.2; unfold InR at h1 h2 ⊢; omega⟩, rfl, rfl⟩
            have hmx : (if l'[i].hi > b.hi then l'[i].hi else b.hi) = b'.hi := by rw [hb2]; split <;> omega
            refine Need.mk (by omega) ?_
            simp only [hmx, w3, awH, ↓awD, awP, Nat.reduceLeDiff, Nat.reduceEqDiff, Nat.reduceAdd, Int.reduceLT, Int.reduceLE, Int.reduceEq]
            have hdh := dyn_hi (init := init) (capo := capo) hb1
            have hob2 : (h ++ J ++ [AObj.cells [i64 l'[i].lo, i64 l'[i].hi]])[id]? = .some (AObj.cells (dynL z2 (l'.map rgv) cap)) := hobx _
            have hidne : ido ≠ id := fun hh => hap _ _ (by rw [hh])
            have hlt1 := (List.getElem?_eq_some_iff.1 q2).1
            refine ⟨(i + 1, .vw ido 0 (init.length + 1) capo, (J ++ [AObj.cells [i64 l'[i].lo, i64 l'[i].hi]]).set (ido - h.length) (.cells (dynL z2 ((init ++ [b']).map rgv) capo)), init ++ [b']), ⟨hil, ?_, fun a b hh => hap a b (by rw [← hh]), hN.mrg (List.getElem?_eq_getElem hil) hb1 hb2, by simp; omega, .inr ⟨by simp, ido, capo, by simp, ?_, by simpa using q3, q4⟩⟩, by simp only; omega, weak_of ?_ (by simp [look])⟩
            · simp only
              rw [← List.set_append_right _ _ q4, ← List.append_assoc, List.getElem?_set_ne hidne]; exact hob2
            · simp only
              rw [← List.set_append_right _ _ q4, ← List.append_assoc, List.getElem?_set_self (by rw [List.length_append]; omega)]
            · simp only
              rw [← List.set_append_right _ _ q4, ← List.append_assoc, ← hdh]
      · have hil : i = l'.length := by simp only [decide_eq_false_iff_not] at hb; omega
        subst hil
        rw [List.take_length] at hN
        simp only [awH, ↓awD, awP, Nat.reduceLeDiff, Nat.reduceEqDiff, Nat.reduceAdd, Int.reduceLT, Int.reduceLE, Int.reduceEq]
        rcases hslot with ⟨rfl, rfl⟩ | ⟨hne, ido, capo, rfl, q2, q3, q4⟩
        · exact Fin.all (by rw [List.length_append]; omega) ⟨_, J, l', [], rfl, rfl, .inl ⟨rfl, rfl⟩, hperm, hpw, hN, hol⟩
        · exact Fin.all (by rw [List.length_append]; omega) ⟨_, J, l', out, rfl, rfl, .inr ⟨ido, capo, by rw [List.length_map]; rfl, q2, by rw [List.length_map]; exact q3, q4⟩, hperm, hpw, hN, hol⟩

def ac76 : ACode := (.seq (.region [oq 2 (.move (ci 0)), oq 3 (.move (ci 0)), oq 4 (.move (cb false))]) (.seq (.region [oq 6 (qm 0), oq 7 (.call (.func 91) [((tq 6), false)]), oq 5 (qm 7)]) (.seq (.seq (.region [oq 8 (qm 5), oq 9 (qn 8), oq 10 (.bin .eql (tq 9) (ci 0))]) (.cond (tq 10) (.seq (.region [oq 2 (.move (ci 0)), oq 3 (.move (ci 0)), oq 4 (.move (cb false))]) .ret) .skip)) (.seq (.draw [oq 11 (qm 5), oq 12 (.indexAddr 2 (tq 11) (ci 0)), oq 13 (qf 0 12), oq 14 (ql 13), oq 15 (qm 5), oq 16 (qm 5), oq 17 (qn 16), oq 18 (.bin .sub (tq 17) (ci 1)), oq 19 (qx 2 15 18), oq 20 (qf 1 19), oq 21 (ql 20), oq 2 (qm 14), oq 3 (qm 21), oq 4 (.move (cb true))]) .ret))))
theorem c76 : cfn E0.P [] Tryz.f76 = some (ac76, [(.tmp 2), (.tmp 3), (.tmp 4)], 22) := by kernel_rfl

def loT (l : List Rg) : Int := ((l.filter (·.some)).map (·.lo)).min?.getD 0
def hiT (l : List Rg) : Int := ((l.filter (·.some)).map (·.hi)).max?.getD 0
def someT (l : List Rg) : Bool := !(l.filter (·.some)).isEmpty
def SortOk : Prop := ∀ (l : List Rg) (P J : List AObj) (lo : Nat) (s : AV), P.length = lo → SlotOk (P ++ J) lo z2 (l.map rgv) s → l.length < 2 ^ 40 →
  Ev E0 101 [s, .fn (.func 102) [] []] (P ++ J) (fun r h' => r = .ret (.tup []) ∧ ∃ (J' : List AObj) (l' : List Rg), h' = P ++ J' ∧ l'.Perm l ∧ l'.Pairwise loLe ∧ SlotOk h' lo z2 (l'.map rgv) s)
theorem ends_nil {l l' out : List Rg} (hp : l'.Perm (l.filter (·.some))) (hn : Nrm l' out) (ho : out = []) : loT l = 0 ∧ hiT l = 0 ∧ someT l = false := by
  subst ho
  have h0 : l' = [] := by
    cases l' with
    | nil => rfl
    | cons a r => obtain ⟨b, hb, _⟩ := hn.2.2 (by simp); simp at hb
  subst h0
  have h1 : l.filter (·.some) = [] := hp.nil_eq.symm
  simp [loT, hiT, someT, h1]
theorem ends_cons {l l' out : List Rg} {a b : Rg} (hp : l'.Perm (l.filter (·.some))) (hw : l'.Pairwise loLe) (hn : Nrm l' out) (ha : out.head? = .some a) (hb : out.getLast? = .some b) : loT l = a.lo ∧ hiT l = b.hi ∧ someT l = true := by
  have hne : l' ≠ [] := fun h => by have := hn.1 h; subst this; simp at ha
  obtain ⟨c, l2, rfl⟩ := List.exists_cons_of_ne_nil hne
  obtain ⟨a', ha', hal⟩ := hn.2.1 c rfl
  rw [ha] at ha'; cases ha'
  obtain ⟨b', hb', ⟨y, hy, hyb⟩, hm⟩ := hn.2.2 hne
  rw [hb] at hb'; cases hb'
  have hmin : ((l.filter (·.some)).map (·.lo)).min? = .some a.lo := by
    rw [List.min?_eq_some_iff]
    refine ⟨List.mem_map.2 ⟨c, hp.mem_iff.1 (by simp), hal.symm⟩, fun z hz => ?_⟩
    obtain ⟨x, hx, rfl⟩ := List.mem_map.1 hz
    rw [hal]
    rcases List.mem_cons.1 (hp.mem_iff.2 hx) with rfl | hx
    · exact Int.le_refl _
    · exact (List.pairwise_cons.1 hw).1 x hx
  have hmax : ((l.filter (·.some)).map (·.hi)).max? = .some b.hi := by
    rw [List.max?_eq_some_iff]
    refine ⟨List.mem_map.2 ⟨y, hp.mem_iff.1 hy, hyb⟩, fun z hz => ?_⟩
    obtain ⟨x, hx, rfl⟩ := List.mem_map.1 hz
    exact hm x (hp.mem_iff.2 hx)
  have hs : l.filter (·.some) ≠ [] := fun h => by rw [h] at hp; exact hne hp.eq_nil
  refine ⟨by simp [loT, hmin], by simp [hiT, hmax], ?_⟩
  cases hl : l.filter (·.some) with
  | nil => exact absurd hl hs
  | cons a r => simp [someT, hl]
theorem ends_ev (hsort : SortOk) (l : List Rg) (hl : l.length < 2 ^ 40) (h : List AObj) : EvR E0 76 [rgl l] h (.tup [i64 (loT l), i64 (hiT l), boolv (someT l)]) := by
  refine Ev.drop rfl ?_
  refine ev_of (fn := Tryz.f76) (hs := []) Tryz.func76 c76 (by simp) fun hcl => ?_
  simp only [ac76, awH, ↓awD, awP, Nat.reduceLeDiff, Nat.reduceEqDiff, Nat.reduceAdd, Int.reduceLT, Int.reduceLE, Int.reduceEq]
  refine EvF.use (norm_ev l hl h hsort) ?_
  rintro r h' ⟨s, J, l', out, rfl, rfl, hs, hp, hw, hn, hlen⟩
  have hll : out.length < 2 ^ 40 := Nat.lt_of_le_of_lt hlen (by rw [hp.length_eq]; exact Nat.lt_of_le_of_lt (List.length_filter_le _ _) hl)
  rcases hs with ⟨rfl, he⟩ | ⟨id, cap, rfl, h2, h3, h4⟩
  · have ho : out = [] := by simpa using he
    obtain ⟨e1, e2, e3⟩ := ends_nil hp hn ho
    simp only [awH, ↓awD, awP, Nat.reduceLeDiff, Nat.reduceEqDiff, Nat.reduceAdd, Int.reduceLT, Int.reduceLE, Int.reduceEq]
    exact Fin.all (by rw [List.length_append]; omega) ⟨by rw [e1, e2, e3], J, rfl⟩
  · rw [List.length_map] at h3 ⊢
    rcases List.eq_nil_or_concat out with rfl | ⟨init, b, hob⟩
    · obtain ⟨e1, e2, e3⟩ := ends_nil hp hn rfl
      simp only [List.length_nil, awH, ↓awD, awP, Nat.reduceLeDiff, Nat.reduceEqDiff, Nat.reduceAdd, Int.reduceLT, Int.reduceLE, Int.reduceEq]
      exact Fin.all (by rw [List.length_append]; omega) ⟨by rw [e1, e2, e3], J, rfl⟩
    · rw [List.concat_eq_append] at hob
      obtain ⟨a, ha⟩ : ∃ a, out.head? = .some a := by subst hob; cases init <;> simp
      have hb : out.getLast? = .some b := by subst hob; simp
      obtain ⟨e1, e2, e3⟩ := ends_cons hp hw hn ha hb
      have hm : out.length = init.length + 1 := by subst hob; simp
      have hb0 : out[init.length]? = .some b := by subst hob; simp
      have ha0 : out[0]? = .some a := by rw [← List.head?_eq_getElem?]; exact ha
      have hdb := dyn_cells (z := z2) (cap := cap) (fit_rgs _) (map_get rgv out _ b hb0)
      have hda := dyn_cells (z := z2) (cap := cap) (fit_rgs _) (map_get rgv out _ a ha0)
      simp only [rgv_eq, AV.cells] at hda hdb
      have d0 : decide (((init.length + 1 : Nat) : Int) = 0) = false := by rw [decide_eq_false_iff_not]; omega
      have wk : IntKind.i64.wrap (((init.length + 1 : Nat) : Int) - 1) = ((init.length : Nat) : Int) := by rw [wrap_i64] <;> omega
      have c1 : (dynL z2 (out.map rgv) cap)[init.length * 2 + 1]? = .some (i64 b.hi) := by
        have h1 : (((dynL z2 (out.map rgv) cap).drop (init.length * 2)).take 2)[1]? = .some (i64 b.hi) := by rw [hdb]; rfl
        rw [List.getElem?_take_of_lt (by omega), List.getElem?_drop] at h1
        exact h1
      have c0 : (dynL z2 (out.map rgv) cap)[0]? = .some (i64 a.lo) := by
        have h1 : (((dynL z2 (out.map rgv) cap).drop (0 * 2)).take 2)[0]? = .some (i64 a.lo) := by rw [hda]; rfl
        rw [List.getElem?_take_of_lt (by omega), List.getElem?_drop] at h1
        exact h1
      simp only [hm, d0, awH, ↓awD, awP, Nat.reduceLeDiff, Nat.reduceEqDiff, Nat.reduceAdd, Int.reduceLT, Int.reduceLE, Int.reduceEq]
      refine Need.mk (by omega) ?_
      simp only [h2, c0, c1, wk, Int.toNat_zero, Nat.zero_mul, Int.toNat_natCast, awH, ↓awD, awP, Nat.reduceLeDiff, Nat.reduceEqDiff, Nat.reduceAdd, Int.reduceLT, Int.reduceLE, Int.reduceEq]
      refine Need.mk ⟨by omega, by omega⟩ ?_
      simp only [h2, c0, c1, wk, Int.toNat_natCast, awH, ↓awD, awP, Nat.reduceLeDiff, Nat.reduceEqDiff, Nat.reduceAdd, Int.reduceLT, Int.reduceLE, Int.reduceEq]
      exact Fin.all (by rw [List.length_append]; omega) ⟨by rw [e1, e2, e3], J, rfl⟩
end Go.Abs.Fr
