/- slices.Sorted(slices.Values(l)), for ints: as a contract here. -/
import Derived.Test.YtloimemacnjpgaaGreatS15SvI
import Derived.Test.YtloimemacnjpgaaGreatS15SoRg
import Derived.Test.YtloimemacnjpgaaGreatS15M7
set_option linter.all false
namespace Go.Proofs
open Go.RowKit Go.Shelf Go.Sort
set_option maxRecDepth 100000 in
set_option maxHeartbeats 2000000 in
theorem Tryz.sorted_calls (Bs : Nat) (sv : Value) (xs : List Int) (hlen : xs.length * 8 ≤ 140737488351232) (w : World) (hBs : Bs < w.heap.size) (hc0 : w.cell? ⟨Bs, 0, none⟩ = some sv) (hL : Tryz.Ints w.heap.size w sv xs) :
    Calls Tryz.prog 82 #[.func (.func 95) #[] #[.pointer (some ⟨Bs, 0, none⟩)]] w fun e W' => ∃ v, e = .returned v ∧ Below w.heap.size w W' ∧ Go.Abs.FreshInts w.heap.size W' v (xs.mergeSort fun x y => decide (x ≤ y)) := by
  have hcol := callsIn_wide.1 (Tryz.collect_in Fence.wide 4 trivial trivial trivial rfl (Nat.le_refl _) Bs sv xs (by unfold maxLen; omega) hlen w hBs hc0 hL)
  obtain ⟨ms, hmd⟩ : ∃ ms, xs.mergeSort (fun x y => decide (x ≤ y)) = ms := ⟨_, rfl⟩
  rw [hmd]
  go_enter Tryz.func82, Tryz.ntmps82
  go_wp2_with (go_at_call 93; refine hcol.mono ?_; rintro e W ⟨v, rfl, hrow, hnil, hb⟩)
  rcases hrow.2 with ⟨rfl, hz⟩ | ⟨gb, cap, cur, rfl, hbase, hgb, r1, r2, r3, r4⟩
  · have hss : xs = [] := List.eq_nil_of_length_eq_zero hz
    subst hss
    have hs := AnyM.slices_Sort_int_none Tryz.sortInt none 0 W
    change Calls Tryz.prog 94 _ _ _ at hs
    go_wp2_with (go_at_call 94; refine hs.mono ?_; rintro e w' ⟨rfl, rfl⟩)
    go_ret
    exact ⟨_, rfl, hb, .inl ⟨rfl, by rw [← hmd]; simp⟩⟩
  · have r4' : cur.toList.take xs.length = xs.map (Value.int .i64) := by simpa using r4
    have hH : Holds (Value.int .i64) W gb 0 xs.toArray := by
      intro j hj
      rw [List.size_toArray] at hj
      have h1 : cur[j]? = some (.int .i64 xs[j]) := by
        have : (cur.toList.take xs.length)[j]? = some (.int .i64 xs[j]) := by rw [r4']; simp [hj]
        rw [List.getElem?_take_of_lt hj] at this
        simpa using this
      refine ⟨?_, ?_⟩
      · rw [Nat.zero_add, Go.Abs.cell_of_heap hgb, h1]; simp [hj]
      · simp [World.frozen?, hgb]
    have hgl : gb < W.heap.size := (Array.getElem?_eq_some_iff.1 hgb).1
    have hs := AnyM.slices_Sort_int Tryz.sortInt gb 0 cap xs W hH hgl (by omega)
    change Calls Tryz.prog 94 _ _ _ at hs
    have hms : (xs.mergeSort fun x y => decide (x ≤ y)).length = xs.length := List.length_mergeSort _
    rw [hmd] at hms
    have hs' : Calls Tryz.prog 94 #[.slice (some ⟨gb, 0, none⟩) xs.length cap] W fun e w' => e = .returned (.tuple #[]) ∧ ∃ n os, w' = grow (putRow (Value.int .i64) (Sort.ahead W n) gb 0 ms.toArray) os := by rw [← hmd]; exact hs
    clear hs hmd
    go_wp2_with (go_at_call 94; refine hs'.mono ?_; rintro e w' ⟨rfl, n, os, rfl⟩)
    go_ret
    have hpb := Go.Abs.put_block (enc := Value.int .i64) (n := n) (d := ms.toArray) (os := os) hgb
    have hpt := Go.Abs.put_take (enc := Value.int .i64) (d := ms.toArray) (cur := cur) (by rw [List.size_toArray, hms, r3]; omega)
    refine ⟨_, rfl, ?_, .inr ⟨gb, cap, _, _, _, by rw [hms]; rfl, hbase, hpb, by rw [hms]; exact r1, by simpa using hpt⟩⟩
    refine hb.trans ⟨rfl, rfl, rfl, ?_, fun k hk => ?_⟩
    · simp [grow, putRow, mapBlock, Sort.ahead]
    · show (W.heap.modify gb _ ++ os)[k]? = _
      have hkW : k < W.heap.size := Nat.lt_of_lt_of_le hk hb.size
      rw [Array.getElem?_append_left (by simpa using hkW), Array.getElem?_modify, if_neg (by omega)]
end Go.Proofs
namespace Go.Abs.Fr
open Go Go.Abs Go.Proofs
set_option linter.unusedSimpArgs false
set_option maxRecDepth 100000
def sortI (l : List Int) : List Int := l.mergeSort fun x y => decide (x ≤ y)
theorem sorted_ev (l : List Int) (hl : l.length < 2 ^ 40) (h : List AObj) (id : Nat) (hid : h[id]? = some (.cells [intl l])) : EvR E0 82 [.fn (.func 95) [] [.ref id 0]] h (intl (sortI l)) := by
  refine ev_of_fresh (zs := sortI l) Tryz.func82 (by rfl) rfl fun w g vs hg hgl hh ha => ?_
  obtain ⟨a1, a2⟩ := ha
  obtain ⟨x0, b0, b1, _⟩ := a2 0 _ rfl
  simp only [Rep, Reps] at b1
  obtain ⟨fa, ca, rfl, f1, v1, rest, f2, ⟨rfl, _⟩, rfl⟩ := b1
  have hvs : vs = #[.func (.func 95) #[] #[.pointer (some ⟨g.loc id, 0, none⟩)]] := by
    apply Array.ext_getElem?
    intro i
    match i with
    | 0 => rw [b0]; simp; exact ⟨by simpa using f1, by rw [← Array.toList_inj]; exact f2⟩
    | n + 1 => rw [Array.getElem?_eq_none (by rw [a1]; simp), Array.getElem?_eq_none (by simp)]
  subst hvs
  obtain ⟨cs, e, hc⟩ := hh.cells id _ hid
  obtain ⟨v, hv, hr, _⟩ := hc.rep 0 _ rfl
  simp only [Rep] at hr
  obtain ⟨base, len, cap, rfl, r1, r2, _, r3, r4⟩ := hr
  rw [List.length_map] at r1
  subst r1
  refine (Tryz.sorted_calls (g.loc id) (.slice base l.length cap) l (by omega) w (lt_of_heap hc.blk) (by rw [cell_of_heap hc.blk]; exact hv) ?_).mono fun e w' hq => hq
  rcases Nat.eq_zero_or_pos l.length with h0 | h0
  · have : l = [] := List.eq_nil_of_length_eq_zero h0
    subst this
    exact .inl ⟨base, cap, rfl, rfl⟩
  · obtain ⟨b, off, hb⟩ : ∃ b off, base = some ⟨b, off, none⟩ := by
      cases base with
      | none => have := r3 rfl; omega
      | some a => exact ⟨a.block, a.off, by have := (r4 a rfl).1 (by omega); cases a; simp only at this; subst this; rfl⟩
    subst hb
    obtain ⟨_, k, hels⟩ := r4 _ rfl
    simp only at hels
    have hk : k = 1 := by
      obtain ⟨u, hu, hk, _⟩ := hels.get 0 (i64 l[0]) (by rw [List.getElem?_map, List.getElem?_eq_getElem h0]; rfl)
      rw [Rep.lit_iff] at hu; subst hu
      simpa [Value.cells] using hk.symm
    subst hk
    have hget : ∀ j, j < l.length → w.cell? ⟨b, off + j, none⟩ = some (.int .i64 (l[j]?.getD 0)) ∧ g.own b (off + j) = .com := fun j hj => by
      obtain ⟨u, hu, _, hH⟩ := hels.get j (i64 l[j]) (by rw [List.getElem?_map, List.getElem?_eq_getElem hj]; rfl)
      rw [Rep.lit_iff] at hu; subst hu
      have := hH 0 (.int .i64 l[j]) (by simp [Value.cells])
      simpa [hj] using this
    refine .inr ⟨b, off, cap, rfl, hg b (off + 0) (by rw [(hget 0 h0).2]; simp), fun j hj => (hget j hj).1⟩

def ac63 : ACode := (.seq (.region [oq 1 (.box (tq 0)), oq 2 (.move (cb false))]) (.seq (.seq (.region [oq 6 (qf 0 1), oq 7 (ql 6), oq 8 (.call (.func 75) [((tq 7), false)]), oq 9 (.un .not (tq 8))]) (.cond (tq 9) (.seq (.region [oq 10 (qf 2 1), oq 11 (ql 10), oq 12 (qn 11), oq 13 (.bin .eql (tq 12) (ci 0)), oq 14 (qm 13), og 15 (qf 3 1) 14 true, og 16 (ql 15) 14 true, og 17 (.bin .eql (tq 16) (ci 0)) 14 true, oq 18 (.pick (tq 14) (tq 17) (cb false)), oq 19 (qm 18), og 20 (qf 4 1) 19 true, og 21 (ql 20) 19 true, og 22 (.bin .eql (tq 21) (ci 0)) 19 true, oq 23 (.pick (tq 19) (tq 22) (cb false)), oq 2 (qm 23)]) .ret) .skip)) (.seq (.region [oq 25 (qf 2 1), oq 26 (ql 25), oq 27 (.call (.func 76) [((tq 26), false)]), oq 24 (qm 27), oq 28 (.extract (tq 24) 0), oq 29 (.extract (tq 24) 1), oq 30 (.extract (tq 24) 2), oq 3 (qm 28), oq 4 (qm 29), oq 5 (qm 30)]) (.seq (.region [oq 31 (qm 5), oq 32 (qm 31), og 33 (qf 2 1) 32 true, og 34 (ql 33) 32 true, og 35 (.call (.func 77) [((tq 34), false)]) 32 true, oq 36 (.pick (tq 32) (tq 35) (cb false)), oq 37 (qm 36), og 38 (qm 3) 37 true, og 39 (qf 3 1) 37 true, og 40 (ql 39) 37 true, og 41 (.bin .eql (tq 38) (tq 40)) 37 true, oq 42 (.pick (tq 37) (tq 41) (cb false)), oq 43 (qm 42), og 44 (qm 4) 43 true, og 45 (qf 4 1) 43 true, og 46 (ql 45) 43 true, og 47 (.bin .eql (tq 44) (tq 46)) 43 true, oq 48 (.pick (tq 43) (tq 47) (cb false)), oq 49 (qm 48), og 50 (qf 0 1) 49 true, og 51 (ql 50) 49 true, og 52 (.bin .eql (tq 51) (ci 2)) 49 true, og 53 (qm 52) 49 true, og 54 (qm 3) 53 false, og 55 (.bin .geq (tq 54) (ci 0)) 53 false, og 56 (.pick (tq 53) (cb true) (tq 55)) 49 true, oq 57 (.pick (tq 49) (tq 56) (cb false)), oq 2 (qm 57)]) .ret))))
theorem c63 : cfn E0.P [] Tryz.f63 = some (ac63, [(.tmp 2)], 58) := by kernel_rfl
def ac67 : ACode := (.seq (.region [oq 4 (.move (cb false))]) (.seq (.region [oq 8 (qm 0), oq 9 (.call (.func 83) [((tq 8), false)]), oq 10 (.call (.func 82) [((tq 9), false)]), oq 5 (qm 10)]) (.seq (.seq (.region [oq 11 (qm 5), oq 12 (qn 11), oq 13 (.move (ci 0))]) (.block 0 (.loop (.seq (.region [oq 14 (.bin .lss (tq 13) (tq 12))]) (.seq (.cond (tq 14) .skip (.exit 0)) (.seq (.block 1 (.seq (.region [oq 15 (qm 13), oq 16 (qx 1 11 13), oq 17 (ql 16), oq 6 (qm 15), oq 7 (qm 17)]) (.seq (.region [oq 18 (qm 6), oq 19 (qm 7), oq 20 (.bin .neq (tq 18) (tq 19))]) (.cond (tq 20) (.seq (.region [oq 4 (.move (cb false))]) .ret) .skip)))) (.region [oq 21 (.bin .add (tq 13) (ci 1)), oq 13 (qm 21)]))))))) (.seq (.region [oq 22 (qm 0), oq 23 (qn 22), oq 24 (qm 1), oq 25 (.bin .eql (tq 23) (tq 24)), oq 4 (qm 25)]) .ret))))
theorem c67 : cfn E0.P [] Tryz.f67 = some (ac67, [(.tmp 4)], 26) := by kernel_rfl
def ac83 : ACode := (.seq (.region [oq 1 (.box (tq 0)), oq 2 (.move (.const .nilFunc))]) (.seq (.region [oq 3 (.mkFunc (.func 95) [] [(tq 1)]), oq 2 (qm 3)]) .ret))
theorem c83 : cfn E0.P [] Tryz.f83 = some (ac83, [(.tmp 2)], 4) := by kernel_rfl

theorem ends1_ev (l : List Rg) (hl : l.length < 2 ^ 40) (h : List AObj) : EvR E0 76 [rgl l] h (.tup [i64 (loT l), i64 (hiT l), boolv (someT l)]) := ends_ev sort_ok l hl h
def sizesT (k : Int) : Bool := decide (k = 2) || (decide (k = 5) || (decide (k = 6) || (decide (k = 7) || decide (k = 9))))
def letsT (r : Dsc) : Bool := bif sizesT r.kind then someT r.set && (rightS r.set && (decide (loT r.set = r.lo) && (decide (hiT r.set = r.hi) && (decide (r.kind = 2) || decide (0 ≤ loT r.set)))))
  else decide (r.set.length = 0) && (decide (r.lo = 0) && decide (r.hi = 0))
theorem lets_ev (r : Dsc) (hr : r.set.length < 2 ^ 40) (h : List AObj) : EvR E0 63 [dscv r] h (boolv (letsT r)) := by
  refine ev_of (fn := Tryz.f63) (hs := []) Tryz.func63 c63 (by simp) fun hcl => ?_
  have d0 : decide ((r.set.length : Int) = 0) = decide (r.set.length = 0) := by rw [decide_eq_decide]; omega
  have hsz := fun h => sizes_ev r.kind h
  have hen := fun h => ends1_ev r.set hr h
  have hri := fun h => right_ev r.set (by omega) h
  have g0 : ∀ J : List AObj, (h ++ [AObj.cells [i64 r.kind, boolv r.ext, rgl r.set, i64 r.lo, i64 r.hi, str r.frm, strl r.names, strl r.more, fldl r.parts, fldl r.adds, intl r.order, i64 r.elem]] ++ J)[h.length]? = some (AObj.cells [i64 r.kind, boolv r.ext, rgl r.set, i64 r.lo, i64 r.hi, str r.frm, strl r.names, strl r.more, fldl r.parts, fldl r.adds, intl r.order, i64 r.elem]) := fun J => by simp
  rw [show (boolv (letsT r)) = boolv (bif sizesT r.kind then someT r.set && (rightS r.set && (decide (loT r.set = r.lo) && (decide (hiT r.set = r.hi) && (decide (r.kind = 2) || decide (0 ≤ loT r.set))))) else decide (r.set.length = 0) && (decide (r.lo = 0) && decide (r.hi = 0))) from rfl]
  simp only [show (decide (r.kind = 2) || (decide (r.kind = 5) || (decide (r.kind = 6) || (decide (r.kind = 7) || decide (r.kind = 9))))) = sizesT r.kind from rfl] at hsz
  generalize sizesT r.kind = bs at hsz ⊢
  generalize someT r.set = b1 at *
  generalize rightS r.set = b2 at *
  generalize loT r.set = lo at *
  generalize hiT r.set = hi at *
  simp only [ac63, dscv_eq, d0, awH, ↓awD, awP, Nat.reduceLeDiff, Nat.reduceEqDiff, Nat.reduceAdd, Int.reduceLT, Int.reduceLE, Int.reduceEq]
  repeat' (first | ((first | refine EvF.ret (hsz _) ?_ | refine EvRF.ret (hsz _) ?_); simp only [d0, aw21, awH, ↓awD, awP, Nat.reduceLeDiff, Nat.reduceEqDiff, Nat.reduceAdd, Int.reduceLT, Int.reduceLE, Int.reduceEq]) | ((first | refine EvF.ret (hen _) ?_ | refine EvRF.ret (hen _) ?_); simp only [d0, aw21, awH, ↓awD, awP, Nat.reduceLeDiff, Nat.reduceEqDiff, Nat.reduceAdd, Int.reduceLT, Int.reduceLE, Int.reduceEq]) | ((first | refine EvF.ret (hri _) ?_ | refine EvRF.ret (hri _) ?_); simp only [d0, aw21, awH, ↓awD, awP, Nat.reduceLeDiff, Nat.reduceEqDiff, Nat.reduceAdd, Int.reduceLT, Int.reduceLE, Int.reduceEq]) | (refine BrF.mk (fun hb => ?_) (fun hb => ?_) <;> (try rw [hb]) <;> simp only [d0, aw21, awH, ↓awD, awP, Nat.reduceLeDiff, Nat.reduceEqDiff, Nat.reduceAdd, Int.reduceLT, Int.reduceLE, Int.reduceEq]))
  all_goals (refine Fin.end hcl rfl (by first | rfl | exact (List.append_nil _).symm | (simp only [List.append_assoc]; rfl)) ⟨?_, rfl⟩; clear hcl hsz hen hri g0; first | (simp only [*, cond_true, cond_false, Bool.not_true, Bool.not_false, Bool.true_and, Bool.false_and, Bool.and_true, Bool.and_false, Bool.true_or, Bool.false_or, Bool.or_true, Bool.or_false]; done) | (simp_all; done) | skip)
def idI : Nat → List Int → Bool
  | _, [] => true
  | k, x :: l => decide ((k : Int) = x) && idI (k + 1) l
def placesT (l : List Int) (n : Nat) : Bool := idI 0 (sortI l) && decide (l.length = n)
theorem values_ev (l : List Int) (h : List AObj) : Ev E0 83 [intl l] h (fun r h' => r = .ret (.fn (.func 95) [] [.ref h.length 0]) ∧ h' = h ++ [.cells [intl l]]) := by
  refine ev_of (fn := Tryz.f83) (hs := []) Tryz.func83 c83 (by simp) fun hcl => ?_
  simp only [ac83, awH, ↓awD, awP, Nat.reduceLeDiff, Nat.reduceEqDiff, Nat.reduceAdd, Int.reduceLT, Int.reduceLE, Int.reduceEq]
  exact Fin.all (by simp) ⟨rfl, rfl⟩
theorem places_ev (l : List Int) (n : Nat) (hl : l.length < 2 ^ 40) (h : List AObj) : EvR E0 67 [intl l, i64 n] h (boolv (placesT l n)) := by
  refine Ev.drop rfl ?_
  refine ev_of (fn := Tryz.f67) (hs := []) Tryz.func67 c67 (by simp) fun hcl => ?_
  have hms : (sortI l).length = l.length := List.length_mergeSort _
  have dn : decide ((l.length : Int) = (n : Int)) = decide (l.length = n) := by rw [decide_eq_decide]; omega
  unfold placesT
  have hso := fun h id hid => sorted_ev l hl h id hid
  generalize sortI l = m at hms hso ⊢
  generalize hR : (idI 0 m && decide (l.length = n)) = R
  simp only [ac67, awH, ↓awD, awP, Nat.reduceLeDiff, Nat.reduceEqDiff, Nat.reduceAdd, Int.reduceLT, Int.reduceLE, Int.reduceEq]
  refine EvF.use (values_ev l h) ?_
  rintro r h' ⟨rfl, rfl⟩
  simp only [awH, ↓awD, awP, Nat.reduceLeDiff, Nat.reduceEqDiff, Nat.reduceAdd, Int.reduceLT, Int.reduceLE, Int.reduceEq]
  refine EvF.ret (hso _ h.length (by simp)) ?_
  simp only [awH, ↓awD, awP, Nat.reduceLeDiff, Nat.reduceEqDiff, Nat.reduceAdd, Int.reduceLT, Int.reduceLE, Int.reduceEq]
  refine LoopF.list m (by omega) (γ := Unit) (fun i _ => ⟨[(0, intl l), (1, i64 n), (11, intl m), (12, i64 m.length), (13, i64 i)], h ++ [.cells [intl l]]⟩) (fun i _ => (idI i (m.drop i) && decide (l.length = n)) = R) () (by simpa using hR) (weak_of rfl (by simp [look])) ?_ ?_
  · rintro i a _ ha hv hi e1 w3
    have hga := map_get i64 m i a ha
    rw [drop_get ha] at hv
    simp only [idI] at hv
    simp only [e1, w3, awH, ↓awD, awP, Nat.reduceLeDiff, Nat.reduceEqDiff, Nat.reduceAdd, Int.reduceLT, Int.reduceLE, Int.reduceEq]
    ((try refine Need.mk (by first | (first | omega | (simp only [awO] at *; omega) | (simp; omega)) | (constructor <;> (first | omega | (simp only [awO] at *; omega) | (simp; omega)))) ?_); refine Elem.recs hga (by first | (rw [getJ]; exact ⟨rfl, rfl⟩) | exact ⟨rfl, rfl⟩) ?_; simp only [getJ, w3, aw21, awH, ↓awD, awP, Nat.reduceLeDiff, Nat.reduceEqDiff, Nat.reduceAdd, Int.reduceLT, Int.reduceLE, Int.reduceEq])
    (refine BrF.mk (fun hb => ?_) (fun hb => ?_) <;> (try rw [hb]) <;> simp only [w3, aw21, awH, ↓awD, awP, Nat.reduceLeDiff, Nat.reduceEqDiff, Nat.reduceAdd, Int.reduceLT, Int.reduceLE, Int.reduceEq])
    all_goals (simp only [hb, Bool.true_and, Bool.false_and] at hv)
    · exact ⟨(i + 1, ()), ⟨hi, hv⟩, by simp only; omega, weak_of (rfl) (by simp [look])⟩
    · subst hv; exact Fin.all (by simp) ⟨rfl, _, rfl⟩
  · rintro _ hv e1
    rw [drop_len] at hv
    simp only [idI, Bool.true_and] at hv
    subst hv
    simp only [e1, dn, awH, ↓awD, awP, Nat.reduceLeDiff, Nat.reduceEqDiff, Nat.reduceAdd, Int.reduceLT, Int.reduceLE, Int.reduceEq]
    exact Fin.all (by simp) ⟨rfl, _, rfl⟩

def ac45y5 : ACode := (.seq (.region [oq 135 (qf 0 2), oq 136 (ql 135), oq 137 (.bin .eql (tq 136) (ci 9)), oq 134 (qm 137)]) (.cond (tq 134) (.seq (.region [oq 138 (qf 11 2), oq 139 (ql 138), oq 140 (.bin .geq (tq 139) (ci 0)), oq 141 (qm 140), og 142 (qf 11 2) 141 true, og 143 (ql 142) 141 true, og 144 (qm 1) 141 true, og 145 (.bin .lss (tq 143) (tq 144)) 141 true, oq 146 (.pick (tq 141) (tq 145) (cb false)), oq 4 (qm 146)]) .ret) .skip))
def ac45y4 : ACode := (.seq (.region [oq 108 (qm 5), oq 109 (qm 108), og 110 (qf 8 2) 109 true, og 111 (ql 110) 109 true, og 112 (qn 111) 109 true, og 113 (.bin .eql (tq 112) (ci 0)) 109 true, og 114 (qm 113) 109 true, og 115 (qf 10 2) 114 false, og 116 (ql 115) 114 false, og 117 (qf 8 2) 114 false, og 118 (ql 117) 114 false, og 119 (qn 118) 114 false, og 120 (.call (.func 67) [((tq 116), false), ((tq 119), false)]) 114 false, og 121 (.un .not (tq 120)) 114 false, og 122 (.pick (tq 114) (cb true) (tq 121)) 109 true, oq 123 (.pick (tq 109) (tq 122) (cb false)), oq 124 (qm 123), og 125 (qm 5) 124 false, og 126 (.un .not (tq 125)) 124 false, og 127 (qm 126) 124 false, og 128 (qf 10 2) 127 true, og 129 (ql 128) 127 true, og 130 (qn 129) 127 true, og 131 (.bin .gtr (tq 130) (ci 0)) 127 true, og 132 (.pick (tq 127) (tq 131) (cb false)) 124 false, oq 133 (.pick (tq 124) (cb true) (tq 132)), oq 107 (qm 133)]) (.cond (tq 107) (.seq (.region [oq 4 (.move (cb false))]) .ret) ac45y5))
def ac45y3 : ACode := (.seq (.region [oq 79 (qf 8 2), oq 80 (ql 79), oq 81 (qm 1), oq 82 (qm 5), oq 83 (.call (.func 66) [((tq 80), false), ((tq 81), false), ((tq 82), false)]), oq 84 (.un .not (tq 83)), oq 85 (qm 84), og 86 (qf 9 2) 85 false, og 87 (ql 86) 85 false, og 88 (qm 1) 85 false, og 89 (qm 5) 85 false, og 90 (.call (.func 66) [((tq 87), false), ((tq 88), false), ((tq 89), false)]) 85 false, og 91 (.un .not (tq 90)) 85 false, oq 92 (.pick (tq 85) (cb true) (tq 91)), oq 93 (qm 92), og 94 (qm 6) 93 false, og 95 (.un .not (tq 94)) 93 false, og 96 (qm 95) 93 false, og 97 (qf 8 2) 96 true, og 98 (ql 97) 96 true, og 99 (qn 98) 96 true, og 100 (qf 9 2) 96 true, og 101 (ql 100) 96 true, og 102 (qn 101) 96 true, og 103 (.bin .add (tq 99) (tq 102)) 96 true, og 104 (.bin .gtr (tq 103) (ci 0)) 96 true, og 105 (.pick (tq 96) (tq 104) (cb false)) 93 false, oq 106 (.pick (tq 93) (cb true) (tq 105)), oq 78 (qm 106)]) (.cond (tq 78) (.seq (.region [oq 4 (.move (cb false))]) .ret) ac45y4))
def ac45y2 : ACode := (.seq (.region [oq 51 (qf 1 2), oq 52 (ql 51), oq 53 (qm 52), og 54 (qf 0 2) 53 true, og 55 (ql 54) 53 true, og 56 (.bin .eql (tq 55) (ci 1)) 53 true, og 57 (qm 56) 53 true, og 58 (qf 0 2) 57 false, og 59 (ql 58) 57 false, og 60 (.bin .eql (tq 59) (ci 4)) 57 false, og 61 (.pick (tq 57) (cb true) (tq 60)) 53 true, oq 62 (.pick (tq 53) (tq 61) (cb false)), oq 63 (qm 62), og 64 (qf 1 2) 63 false, og 65 (ql 64) 63 false, og 66 (.un .not (tq 65)) 63 false, og 67 (qm 66) 63 false, og 68 (qf 7 2) 67 true, og 69 (ql 68) 67 true, og 70 (qn 69) 67 true, og 71 (qf 9 2) 67 true, og 72 (ql 71) 67 true, og 73 (qn 72) 67 true, og 74 (.bin .add (tq 70) (tq 73)) 67 true, og 75 (.bin .gtr (tq 74) (ci 0)) 67 true, og 76 (.pick (tq 67) (tq 75) (cb false)) 63 false, oq 77 (.pick (tq 63) (cb true) (tq 76)), oq 50 (qm 77)]) (.cond (tq 50) (.seq (.region [oq 4 (.move (cb false))]) .ret) ac45y3))
def ac45y1 : ACode := (.seq (.region [oq 36 (qf 5 2), oq 37 (ql 36), oq 38 (.call (.func 65) [((tq 37), false)]), oq 39 (.un .not (tq 38)), oq 40 (qm 39), og 41 (qf 0 2) 40 false, og 42 (ql 41) 40 false, og 43 (.bin .neq (tq 42) (ci 7)) 40 false, og 44 (qm 43) 40 false, og 45 (qf 5 2) 44 true, og 46 (ql 45) 44 true, og 47 (.bin .neq (tq 46) (.const (.string (⟨#[]⟩ : ByteArray)))) 44 true, og 48 (.pick (tq 44) (tq 47) (cb false)) 40 false, oq 49 (.pick (tq 40) (cb true) (tq 48)), oq 35 (qm 49)]) (.cond (tq 35) (.seq (.region [oq 4 (.move (cb false))]) .ret) ac45y2))
def ac45z1 : ACode := (.seq (.region [oq 147 (qf 11 2), oq 148 (ql 147), oq 149 (.bin .eql (tq 148) (ci 0)), oq 4 (qm 149)]) .ret)
def ac45 : ACode := (.seq (.region [oq 2 (.box (tq 0)), oq 4 (.move (cb false))]) (.seq (.region [oq 7 (qf 0 2), oq 8 (ql 7), oq 9 (.bin .eql (tq 8) (ci 10)), oq 5 (qm 9)]) (.seq (.region [oq 10 (qm 5), oq 11 (qm 10), og 12 (qf 0 2) 11 false, og 13 (ql 12) 11 false, og 14 (.bin .eql (tq 13) (ci 8)) 11 false, oq 15 (.pick (tq 11) (cb true) (tq 14)), oq 6 (qm 15)]) (.seq (.block 0 (.seq (.region [oq 17 (qf 0 2), oq 18 (ql 17), oq 19 (.bin .lss (tq 18) (ci 1)), oq 20 (qm 19), og 21 (qf 0 2) 20 false, og 22 (ql 21) 20 false, og 23 (.bin .gtr (tq 22) (ci 10)) 20 false, oq 24 (.pick (tq 20) (cb true) (tq 23)), oq 25 (qm 24), og 26 (qs 12 2) 25 false, og 27 (.call (.func 63) [((tq 26), false)]) 25 false, og 28 (.un .not (tq 27)) 25 false, oq 29 (.pick (tq 25) (cb true) (tq 28)), oq 30 (qm 29), og 31 (qs 12 2) 30 false, og 32 (.call (.func 64) [((tq 31), false)]) 30 false, og 33 (.un .not (tq 32)) 30 false, oq 34 (.pick (tq 30) (cb true) (tq 33)), oq 16 (qm 34)]) (.cond (tq 16) (.seq (.region [oq 4 (.move (cb false))]) .ret) ac45y1))) ac45z1))))
theorem c45 : cfn E0.P [] Tryz.f45 = some (ac45, [(.tmp 4)], 150) := by kernel_rfl

def rowT5 (r : Dsc) (n : Nat) : Bool := bif decide (r.kind = 9) then decide (0 ≤ r.elem) && decide (r.elem < n) else decide (r.elem = 0)
def rowT4 (r : Dsc) (n : Nat) : Bool := bif (decide (r.kind = 10) && (decide (r.parts.length = 0) || !placesT r.order r.parts.length)) || (!decide (r.kind = 10) && decide (0 < r.order.length)) then false else rowT5 r n
def rowT3 (r : Dsc) (n : Nat) : Bool := bif !fieldsT r.parts n (decide (r.kind = 10)) || (!fieldsT r.adds n (decide (r.kind = 10)) || (!(decide (r.kind = 10) || decide (r.kind = 8)) && decide (0 < r.parts.length + r.adds.length))) then false else rowT4 r n
def rowT2 (r : Dsc) (n : Nat) : Bool := bif (r.ext && (decide (r.kind = 1) || decide (r.kind = 4))) || (!r.ext && decide (0 < r.more.length + r.adds.length)) then false else rowT3 r n
def rowT1 (r : Dsc) (n : Nat) : Bool := bif !alphaT r.frm || (!decide (r.kind = 7) && !decide (r.frm.size = 0)) then false else rowT2 r n
def rowT (r : Dsc) (n : Nat) : Bool := bif decide (r.kind < 1) || (decide (10 < r.kind) || (!letsT r || !namesT r)) then false else rowT1 r n

def rowQ (h : List AObj) (b : Bool) : AEx → ASt → Prop := blockQ 0 (thenQ (awp E0 ac45z1 (fnPost h.length [.tmp 4] fun r h' => r = .ret (boolv b) ∧ h' = h)) (fnPost h.length [.tmp 4] fun r h' => r = .ret (boolv b) ∧ h' = h))
theorem row_z1 (r : Dsc) (h : List AObj) (hcl : Closed h) (tm : List (Nat × AV)) (k2 : look tm 2 = .ref h.length 0) (b : Bool) (hb : decide (r.elem = 0) = b) : awp E0 ac45z1 (fnPost h.length [.tmp 4] fun r h' => r = .ret (boolv b) ∧ h' = h) ⟨tm, h ++ [AObj.cells [i64 r.kind, boolv r.ext, rgl r.set, i64 r.lo, i64 r.hi, str r.frm, strl r.names, strl r.more, fldl r.parts, fldl r.adds, intl r.order, i64 r.elem]]⟩ := by
  simp only [ac45z1, k2, hb, awH, ↓awD, awP, Nat.reduceLeDiff, Nat.reduceEqDiff, Nat.reduceAdd, Int.reduceLT, Int.reduceLE, Int.reduceEq]
  exact Fin.end hcl rfl (by first | rfl | exact (List.append_nil _).symm | (simp only [List.append_assoc]; rfl)) ⟨rfl, rfl⟩
theorem row_y5 (r : Dsc) (n : Nat) (h : List AObj) (hcl : Closed h) (tm : List (Nat × AV)) (k1 : look tm 1 = i64 n) (k2 : look tm 2 = .ref h.length 0) (k5 : look tm 5 = boolv (decide (r.kind = 10))) (k6 : look tm 6 = boolv (decide (r.kind = 10) || decide (r.kind = 8))) (b : Bool) (hb : rowT5 r n = b) : awp E0 ac45y5 (rowQ h b) ⟨tm, h ++ [AObj.cells [i64 r.kind, boolv r.ext, rgl r.set, i64 r.lo, i64 r.hi, str r.frm, strl r.names, strl r.more, fldl r.parts, fldl r.adds, intl r.order, i64 r.elem]]⟩ := by
  subst hb
  simp only [ac45y5, rowQ, k1, k2, k5, k6, awH, ↓awD, awP, Nat.reduceLeDiff, Nat.reduceEqDiff, Nat.reduceAdd, Int.reduceLT, Int.reduceLE, Int.reduceEq]
  clear k5 k6
  repeat' (refine BrF.mk (fun hb => ?_) (fun hb => ?_) <;> (try rw [hb]) <;> simp only [k1, k2, aw21, awH, ↓awD, awP, Nat.reduceLeDiff, Nat.reduceEqDiff, Nat.reduceAdd, Int.reduceLT, Int.reduceLE, Int.reduceEq])
  · refine Fin.end hcl rfl (by first | rfl | exact (List.append_nil _).symm | (simp only [List.append_assoc]; rfl)) ⟨?_, rfl⟩; simp only [rowT5, *, cond_true, cond_false, Bool.not_true, Bool.not_false, Bool.true_and, Bool.false_and, Bool.and_true, Bool.and_false, Bool.true_or, Bool.false_or, Bool.or_true, Bool.or_false]
  · refine Fin.end hcl rfl (by first | rfl | exact (List.append_nil _).symm | (simp only [List.append_assoc]; rfl)) ⟨?_, rfl⟩; simp only [rowT5, *, cond_true, cond_false, Bool.not_true, Bool.not_false, Bool.true_and, Bool.false_and, Bool.and_true, Bool.and_false, Bool.true_or, Bool.false_or, Bool.or_true, Bool.or_false]
  · exact row_z1 r h hcl _ (by simp [look, k2]) _ (by simp only [rowT5, *, cond_true, cond_false, Bool.not_true, Bool.not_false, Bool.true_and, Bool.false_and, Bool.and_true, Bool.and_false, Bool.true_or, Bool.false_or, Bool.or_true, Bool.or_false])
theorem row_y4 (r : Dsc) (n : Nat) (hm : BD (2 ^ 30) r) (h : List AObj) (hcl : Closed h) (tm : List (Nat × AV)) (k1 : look tm 1 = i64 n) (k2 : look tm 2 = .ref h.length 0) (k5 : look tm 5 = boolv (decide (r.kind = 10))) (k6 : look tm 6 = boolv (decide (r.kind = 10) || decide (r.kind = 8))) (b : Bool) (hb : rowT4 r n = b) : awp E0 ac45y4 (rowQ h b) ⟨tm, h ++ [AObj.cells [i64 r.kind, boolv r.ext, rgl r.set, i64 r.lo, i64 r.hi, str r.frm, strl r.names, strl r.more, fldl r.parts, fldl r.adds, intl r.order, i64 r.elem]]⟩ := by
  subst hb
  have hpl := fun h => places_ev r.order r.parts.length (by have := hm.2.2.2.2.2.2.1; omega) h
  have dp : decide ((r.parts.length : Int) = 0) = decide (r.parts.length = 0) := by rw [decide_eq_decide]; omega
  have do0 : decide ((0 : Int) < (r.order.length : Int)) = decide (0 < r.order.length) := by rw [decide_eq_decide]; omega
  have nx := row_y5 r n h hcl
  clear hm
  simp only [ac45y4, rowQ, k1, k2, k5, dp, do0, awH, ↓awD, awP, Nat.reduceLeDiff, Nat.reduceEqDiff, Nat.reduceAdd, Int.reduceLT, Int.reduceLE, Int.reduceEq]
  repeat' (first | ((first | refine EvF.ret (hpl _) ?_ | refine EvRF.ret (hpl _) ?_); simp only [k1, k2, k5, dp, do0, aw21, awH, ↓awD, awP, Nat.reduceLeDiff, Nat.reduceEqDiff, Nat.reduceAdd, Int.reduceLT, Int.reduceLE, Int.reduceEq]) | (refine BrF.mk (fun hb => ?_) (fun hb => ?_) <;> (try rw [hb]) <;> simp only [k1, k2, k5, dp, do0, aw21, awH, ↓awD, awP, Nat.reduceLeDiff, Nat.reduceEqDiff, Nat.reduceAdd, Int.reduceLT, Int.reduceLE, Int.reduceEq]))
  all_goals clear hpl dp do0
  all_goals (first | (refine Fin.end hcl rfl (by first | rfl | exact (List.append_nil _).symm | (simp only [List.append_assoc]; rfl)) ⟨?_, rfl⟩; simp only [rowT4, *, cond_true, cond_false, Bool.not_true, Bool.not_false, Bool.true_and, Bool.false_and, Bool.and_true, Bool.and_false, Bool.true_or, Bool.false_or, Bool.or_true, Bool.or_false]; done) | (exfalso; simp_all; done) | exact nx _ (by simp [look, *]) (by simp [look, *]) (by simp [look, *]) (by simp [look, *]) _ (by simp only [rowT4, *, cond_true, cond_false, Bool.not_true, Bool.not_false, Bool.true_and, Bool.false_and, Bool.and_true, Bool.and_false, Bool.true_or, Bool.false_or, Bool.or_true, Bool.or_false]))
theorem row_y3 (r : Dsc) (n : Nat) (hm : BD (2 ^ 30) r) (h : List AObj) (hcl : Closed h) (tm : List (Nat × AV)) (k1 : look tm 1 = i64 n) (k2 : look tm 2 = .ref h.length 0) (k5 : look tm 5 = boolv (decide (r.kind = 10))) (k6 : look tm 6 = boolv (decide (r.kind = 10) || decide (r.kind = 8))) (b : Bool) (hb : rowT3 r n = b) : awp E0 ac45y3 (rowQ h b) ⟨tm, h ++ [AObj.cells [i64 r.kind, boolv r.ext, rgl r.set, i64 r.lo, i64 r.hi, str r.frm, strl r.names, strl r.more, fldl r.parts, fldl r.adds, intl r.order, i64 r.elem]]⟩ := by
  subst hb
  have hfp := fun h => fields2_ev r.parts n (decide (r.kind = 10)) (by have := hm.2.2.2.2.1; omega) h
  have hfa := fun h => fields2_ev r.adds n (decide (r.kind = 10)) (by have := hm.2.2.2.2.2.1; omega) h
  have l1 := hm.2.2.2.2.1
  have l2 := hm.2.2.2.2.2.1
  have wp : IntKind.i64.wrap ((r.parts.length : Int) + (r.adds.length : Int)) = ((r.parts.length + r.adds.length : Nat) : Int) := by rw [wrap_i64] <;> omega
  have dq : decide ((0 : Int) < ((r.parts.length + r.adds.length : Nat) : Int)) = decide (0 < r.parts.length + r.adds.length) := by rw [decide_eq_decide]; omega
  have nx := row_y4 r n hm h hcl
  clear hm l1 l2
  simp only [ac45y3, rowQ, k1, k2, k5, k6, wp, dq, awH, ↓awD, awP, Nat.reduceLeDiff, Nat.reduceEqDiff, Nat.reduceAdd, Int.reduceLT, Int.reduceLE, Int.reduceEq]
  repeat' (first | ((first | refine EvF.ret (hfp _) ?_ | refine EvRF.ret (hfp _) ?_); simp only [k1, k2, k5, k6, wp, dq, aw21, awH, ↓awD, awP, Nat.reduceLeDiff, Nat.reduceEqDiff, Nat.reduceAdd, Int.reduceLT, Int.reduceLE, Int.reduceEq]) | ((first | refine EvF.ret (hfa _) ?_ | refine EvRF.ret (hfa _) ?_); simp only [k1, k2, k5, k6, wp, dq, aw21, awH, ↓awD, awP, Nat.reduceLeDiff, Nat.reduceEqDiff, Nat.reduceAdd, Int.reduceLT, Int.reduceLE, Int.reduceEq]) | (refine BrF.mk (fun hb => ?_) (fun hb => ?_) <;> (try rw [hb]) <;> simp only [k1, k2, k5, k6, wp, dq, aw21, awH, ↓awD, awP, Nat.reduceLeDiff, Nat.reduceEqDiff, Nat.reduceAdd, Int.reduceLT, Int.reduceLE, Int.reduceEq]))
  all_goals clear hfp hfa wp dq
  all_goals (first | (refine Fin.end hcl rfl (by first | rfl | exact (List.append_nil _).symm | (simp only [List.append_assoc]; rfl)) ⟨?_, rfl⟩; simp only [rowT3, *, cond_true, cond_false, Bool.not_true, Bool.not_false, Bool.true_and, Bool.false_and, Bool.and_true, Bool.and_false, Bool.true_or, Bool.false_or, Bool.or_true, Bool.or_false]; done) | (exfalso; simp_all; done) | exact nx _ (by simp [look, *]) (by simp [look, *]) (by simp [look, *]) (by simp [look, *]) _ (by simp only [rowT3, *, cond_true, cond_false, Bool.not_true, Bool.not_false, Bool.true_and, Bool.false_and, Bool.and_true, Bool.and_false, Bool.true_or, Bool.false_or, Bool.or_true, Bool.or_false]))
theorem row_y2 (r : Dsc) (n : Nat) (hm : BD (2 ^ 30) r) (h : List AObj) (hcl : Closed h) (tm : List (Nat × AV)) (k1 : look tm 1 = i64 n) (k2 : look tm 2 = .ref h.length 0) (k5 : look tm 5 = boolv (decide (r.kind = 10))) (k6 : look tm 6 = boolv (decide (r.kind = 10) || decide (r.kind = 8))) (b : Bool) (hb : rowT2 r n = b) : awp E0 ac45y2 (rowQ h b) ⟨tm, h ++ [AObj.cells [i64 r.kind, boolv r.ext, rgl r.set, i64 r.lo, i64 r.hi, str r.frm, strl r.names, strl r.more, fldl r.parts, fldl r.adds, intl r.order, i64 r.elem]]⟩ := by
  subst hb
  have l2 := hm.2.2.2.2.2.1
  have l3 := mxB_len r.more
  have l4 := hm.2.2.2.1
  have wm : IntKind.i64.wrap ((r.more.length : Int) + (r.adds.length : Int)) = ((r.more.length + r.adds.length : Nat) : Int) := by rw [wrap_i64] <;> omega
  have dm : decide ((0 : Int) < ((r.more.length + r.adds.length : Nat) : Int)) = decide (0 < r.more.length + r.adds.length) := by rw [decide_eq_decide]; omega
  have nx := row_y3 r n hm h hcl
  clear hm l2 l3 l4
  cases he : r.ext <;> rw [he] at nx <;> simp only [ac45y2, rowQ, k1, k2, wm, dm, awH, ↓awD, awP, Nat.reduceLeDiff, Nat.reduceEqDiff, Nat.reduceAdd, Int.reduceLT, Int.reduceLE, Int.reduceEq]
  all_goals (repeat' (refine BrF.mk (fun hb => ?_) (fun hb => ?_) <;> (try rw [hb]) <;> simp only [k1, k2, wm, dm, aw21, awH, ↓awD, awP, Nat.reduceLeDiff, Nat.reduceEqDiff, Nat.reduceAdd, Int.reduceLT, Int.reduceLE, Int.reduceEq]))
  all_goals clear wm dm
  all_goals (first | (refine Fin.end hcl rfl (by first | rfl | exact (List.append_nil _).symm | (simp only [List.append_assoc]; rfl)) ⟨?_, rfl⟩; simp only [rowT2, *, cond_true, cond_false, Bool.not_true, Bool.not_false, Bool.true_and, Bool.false_and, Bool.and_true, Bool.and_false, Bool.true_or, Bool.false_or, Bool.or_true, Bool.or_false]; done) | (exfalso; simp_all; done) | exact nx _ (by simp [look, *]) (by simp [look, *]) (by simp [look, *]) (by simp [look, *]) _ (by simp only [rowT2, *, cond_true, cond_false, Bool.not_true, Bool.not_false, Bool.true_and, Bool.false_and, Bool.and_true, Bool.and_false, Bool.true_or, Bool.false_or, Bool.or_true, Bool.or_false]))
theorem row_y1 (r : Dsc) (n : Nat) (hm : BD (2 ^ 30) r) (h : List AObj) (hcl : Closed h) (tm : List (Nat × AV)) (k1 : look tm 1 = i64 n) (k2 : look tm 2 = .ref h.length 0) (k5 : look tm 5 = boolv (decide (r.kind = 10))) (k6 : look tm 6 = boolv (decide (r.kind = 10) || decide (r.kind = 8))) (b : Bool) (hb : rowT1 r n = b) : awp E0 ac45y1 (rowQ h b) ⟨tm, h ++ [AObj.cells [i64 r.kind, boolv r.ext, rgl r.set, i64 r.lo, i64 r.hi, str r.frm, strl r.names, strl r.more, fldl r.parts, fldl r.adds, intl r.order, i64 r.elem]]⟩ := by
  subst hb
  have hal := fun h => alphabet_ev r.frm (by have := hm.2.1; omega) h
  have hs0 : (r.frm = (⟨#[]⟩ : ByteArray)) = (r.frm.size = 0) := by
    apply propext
    constructor
    · rintro h; rw [h]; rfl
    · intro h; exact ByteArray.ext (Array.eq_empty_of_size_eq_zero h)
  have nx := row_y2 r n hm h hcl
  clear hm
  simp only [ac45y1, rowQ, k1, k2, hs0, awH, ↓awD, awP, Nat.reduceLeDiff, Nat.reduceEqDiff, Nat.reduceAdd, Int.reduceLT, Int.reduceLE, Int.reduceEq]
  repeat' (first | ((first | refine EvF.ret (hal _) ?_ | refine EvRF.ret (hal _) ?_); simp only [k1, k2, hs0, aw21, awH, ↓awD, awP, Nat.reduceLeDiff, Nat.reduceEqDiff, Nat.reduceAdd, Int.reduceLT, Int.reduceLE, Int.reduceEq]) | (refine BrF.mk (fun hb => ?_) (fun hb => ?_) <;> (try rw [hb]) <;> simp only [k1, k2, hs0, aw21, awH, ↓awD, awP, Nat.reduceLeDiff, Nat.reduceEqDiff, Nat.reduceAdd, Int.reduceLT, Int.reduceLE, Int.reduceEq]))
  all_goals clear hal hs0
  all_goals (first | (refine Fin.end hcl rfl (by first | rfl | exact (List.append_nil _).symm | (simp only [List.append_assoc]; rfl)) ⟨?_, rfl⟩; simp only [rowT1, *, cond_true, cond_false, Bool.not_true, Bool.not_false, Bool.true_and, Bool.false_and, Bool.and_true, Bool.and_false, Bool.true_or, Bool.false_or, Bool.or_true, Bool.or_false]; done) | (exfalso; simp_all; done) | exact nx _ (by simp [look, *]) (by simp [look, *]) (by simp [look, *]) (by simp [look, *]) _ (by simp only [rowT1, *, cond_true, cond_false, Bool.not_true, Bool.not_false, Bool.true_and, Bool.false_and, Bool.and_true, Bool.and_false, Bool.true_or, Bool.false_or, Bool.or_true, Bool.or_false]))
theorem row2_ev (r : Dsc) (n : Nat) (hm : BD (2 ^ 30) r) (h : List AObj) : EvR E0 45 [dscv r, i64 n] h (boolv (rowT r n)) := by
  refine ev_of (fn := Tryz.f45) (hs := []) Tryz.func45 c45 (by simp) fun hcl => ?_
  have hle := fun h => lets_ev r (by have := hm.1; omega) h
  have hna := fun h => names2_ev r hm h
  have nx := row_y1 r n hm h hcl
  clear hm
  simp only [ac45, dscv_eq, awH, ↓awD, awP, Nat.reduceLeDiff, Nat.reduceEqDiff, Nat.reduceAdd, Int.reduceLT, Int.reduceLE, Int.reduceEq]
  simp only [dscv_eq] at hle hna
  cases k10 : decide (r.kind = 10) <;> rw [k10] at nx <;> (try simp only [awH, ↓awD, awP, Nat.reduceLeDiff, Nat.reduceEqDiff, Nat.reduceAdd, Int.reduceLT, Int.reduceLE, Int.reduceEq])
  · cases k8 : decide (r.kind = 8) <;> rw [k8] at nx <;> (try simp only [awH, ↓awD, awP, Nat.reduceLeDiff, Nat.reduceEqDiff, Nat.reduceAdd, Int.reduceLT, Int.reduceLE, Int.reduceEq])
    · repeat' (first | ((first | refine EvF.ret (hle _) ?_ | refine EvRF.ret (hle _) ?_); simp only [k10, k8, aw21, awH, ↓awD, awP, Nat.reduceLeDiff, Nat.reduceEqDiff, Nat.reduceAdd, Int.reduceLT, Int.reduceLE, Int.reduceEq]) | ((first | refine EvF.ret (hna _) ?_ | refine EvRF.ret (hna _) ?_); simp only [k10, k8, aw21, awH, ↓awD, awP, Nat.reduceLeDiff, Nat.reduceEqDiff, Nat.reduceAdd, Int.reduceLT, Int.reduceLE, Int.reduceEq]) | (refine BrF.mk (fun hb => ?_) (fun hb => ?_) <;> (try rw [hb]) <;> simp only [k10, k8, aw21, awH, ↓awD, awP, Nat.reduceLeDiff, Nat.reduceEqDiff, Nat.reduceAdd, Int.reduceLT, Int.reduceLE, Int.reduceEq]))
      all_goals clear hle hna
      all_goals (first | (refine Fin.end hcl rfl (by first | rfl | exact (List.append_nil _).symm | (simp only [List.append_assoc]; rfl)) ⟨?_, rfl⟩; simp only [rowT, *, cond_true, cond_false, Bool.not_true, Bool.not_false, Bool.true_and, Bool.false_and, Bool.and_true, Bool.and_false, Bool.true_or, Bool.false_or, Bool.or_true, Bool.or_false]; done) | (exfalso; simp_all; done) | exact nx _ (by simp [look, *]) (by simp [look, *]) (by simp [look, *]) (by simp [look, *]) _ (by simp only [rowT, *, cond_true, cond_false, Bool.not_true, Bool.not_false, Bool.true_and, Bool.false_and, Bool.and_true, Bool.and_false, Bool.true_or, Bool.false_or, Bool.or_true, Bool.or_false]))
    · repeat' (first | ((first | refine EvF.ret (hle _) ?_ | refine EvRF.ret (hle _) ?_); simp only [k10, k8, aw21, awH, ↓awD, awP, Nat.reduceLeDiff, Nat.reduceEqDiff, Nat.reduceAdd, Int.reduceLT, Int.reduceLE, Int.reduceEq]) | ((first | refine EvF.ret (hna _) ?_ | refine EvRF.ret (hna _) ?_); simp only [k10, k8, aw21, awH, ↓awD, awP, Nat.reduceLeDiff, Nat.reduceEqDiff, Nat.reduceAdd, Int.reduceLT, Int.reduceLE, Int.reduceEq]) | (refine BrF.mk (fun hb => ?_) (fun hb => ?_) <;> (try rw [hb]) <;> simp only [k10, k8, aw21, awH, ↓awD, awP, Nat.reduceLeDiff, Nat.reduceEqDiff, Nat.reduceAdd, Int.reduceLT, Int.reduceLE, Int.reduceEq]))
      all_goals clear hle hna
      all_goals (first | (refine Fin.end hcl rfl (by first | rfl | exact (List.append_nil _).symm | (simp only [List.append_assoc]; rfl)) ⟨?_, rfl⟩; simp only [rowT, *, cond_true, cond_false, Bool.not_true, Bool.not_false, Bool.true_and, Bool.false_and, Bool.and_true, Bool.and_false, Bool.true_or, Bool.false_or, Bool.or_true, Bool.or_false]; done) | (exfalso; simp_all; done) | exact nx _ (by simp [look, *]) (by simp [look, *]) (by simp [look, *]) (by simp [look, *]) _ (by simp only [rowT, *, cond_true, cond_false, Bool.not_true, Bool.not_false, Bool.true_and, Bool.false_and, Bool.and_true, Bool.and_false, Bool.true_or, Bool.false_or, Bool.or_true, Bool.or_false]))
  · repeat' (first | ((first | refine EvF.ret (hle _) ?_ | refine EvRF.ret (hle _) ?_); simp only [k10, aw21, awH, ↓awD, awP, Nat.reduceLeDiff, Nat.reduceEqDiff, Nat.reduceAdd, Int.reduceLT, Int.reduceLE, Int.reduceEq]) | ((first | refine EvF.ret (hna _) ?_ | refine EvRF.ret (hna _) ?_); simp only [k10, aw21, awH, ↓awD, awP, Nat.reduceLeDiff, Nat.reduceEqDiff, Nat.reduceAdd, Int.reduceLT, Int.reduceLE, Int.reduceEq]) | (refine BrF.mk (fun hb => ?_) (fun hb => ?_) <;> (try rw [hb]) <;> simp only [k10, aw21, awH, ↓awD, awP, Nat.reduceLeDiff, Nat.reduceEqDiff, Nat.reduceAdd, Int.reduceLT, Int.reduceLE, Int.reduceEq]))
    all_goals clear hle hna
    all_goals (first | (refine Fin.end hcl rfl (by first | rfl | exact (List.append_nil _).symm | (simp only [List.append_assoc]; rfl)) ⟨?_, rfl⟩; simp only [rowT, *, cond_true, cond_false, Bool.not_true, Bool.not_false, Bool.true_and, Bool.false_and, Bool.and_true, Bool.and_false, Bool.true_or, Bool.false_or, Bool.or_true, Bool.or_false]; done) | (exfalso; simp_all; done) | exact nx _ (by simp [look, *]) (by simp [look, *]) (by simp [look, *]) (by simp [look, *]) _ (by simp only [rowT, *, cond_true, cond_false, Bool.not_true, Bool.not_false, Bool.true_and, Bool.false_and, Bool.and_true, Bool.and_false, Bool.true_or, Bool.false_or, Bool.or_true, Bool.or_false]))

theorem seqW_get {B : Int → Val → Bool} {np : Nat} : ∀ (fs : List Fld) (i : Nat) (names : List ByteArray) (l : List Val), names.length = l.length → seqW B np i fs names l = true →
    ∀ (k : Nat) (a : ByteArray), names[k]? = some a → ∃ f, f ∈ fs ∧ f.name = a ∧ ∃ x, l[k]? = some x ∧ B f.t x = true
  | [], i, ns, l, hl, h, k, a, hk => by
    simp only [seqW, decide_eq_true_eq, List.length_eq_zero_iff] at h
    subst h; simp at hk
  | f :: fs, i, [], l, hl, h, k, a, hk => by simp at hk
  | f :: fs, i, x :: xs, l, hl, h, k, a, hk => by
    cases l with
    | nil => simp at hl
    | cons y ys =>
      simp only [seqW] at h
      by_cases hx : x = f.name
      · simp only [hx, decide_true, if_true, Bool.and_eq_true, List.tail_cons] at h
        cases k with
        | zero => simp at hk; subst hk; exact ⟨f, List.mem_cons_self, hx.symm, y, rfl, h.1⟩
        | succ k =>
          obtain ⟨f', h1, h2, x', h3, h4⟩ := seqW_get fs (i + 1) xs ys (by simpa using hl) h.2 k a (by simpa using hk)
          exact ⟨f', List.mem_cons_of_mem _ h1, h2, x', by simpa using h3, h4⟩
      · simp only [hx, decide_false, Bool.false_eq_true, if_false, Bool.and_eq_true] at h
        obtain ⟨f', h1, h2, x', h3, h4⟩ := seqW_get fs (i + 1) (x :: xs) (y :: ys) hl h.2 k a hk
        exact ⟨f', List.mem_cons_of_mem _ h1, h2, x', h3, h4⟩

def canV (d : List Dsc) : Nat → Int → Val → Val
  | 0, t, v => canF (fun _ x => x) (rowAt d t) v
  | k + 1, t, v => canF (canV d k) (rowAt d t) v

structure TabOk (d : List Dsc) : Prop where
  rows : RowsOk d
  once : ∀ r, r ∈ d → ∀ f f', f ∈ r.fields → f' ∈ r.fields → f.name = f'.name → f = f'
  dfl : ∀ r, r ∈ d → ∀ f, f ∈ r.fields → ∀ x, x ∈ f.dfl → simpK x.kind = true ∧ hasV d 40 f.t x = true

theorem hasV_simple {d : List Dsc} {t : Int} {v : Val} (hk : simpK v.kind = true) : ∀ (a b : Nat), hasV d a t v = hasV d b t v := by
  have main : ∀ (B B' : Int → Val → Bool) (z z' : Bool), hasF B z (rowAt d t) v = hasF B' z' (rowAt d t) v := by
    intro B B' z z'
    unfold hasF
    cases he : decide (v.kind = (rowAt d t).kind)
    · simp
    · rw [decide_eq_true_eq] at he
      have hp : parted (rowAt d t).kind = false := by
        rw [← he]; simp only [simpK, Bool.or_eq_true, decide_eq_true_eq] at hk
        simp only [parted, Bool.or_eq_false_iff, decide_eq_false_iff_not]; omega
      simp only [hp, Bool.and_false, Bool.not_false, Bool.true_and]
      congr 1
      simp only [simpK, Bool.or_eq_true, decide_eq_true_eq, he] at hk
      unfold kindF
      rcases hk with h | h | h | h <;> simp [h]
  intro a b
  cases a <;> cases b <;> exact main _ _ _ _

theorem hasF_kind {B : Int → Val → Bool} {z : Bool} {r : Dsc} {v : Val} (h : hasF B z r v = true) : v.kind = r.kind ∧ (z = true → parted r.kind = false) ∧ bareV v = true ∧ kindF B r v = true := by
  unfold hasF at h
  simp only [Bool.and_eq_true, Bool.not_eq_true', Bool.and_eq_false_iff, decide_eq_true_eq] at h
  refine ⟨h.1.1.2, fun hz => ?_, h.1.2, h.2⟩
  rcases h.1.1.1 with h1 | h1
  · rw [hz] at h1; cases h1
  · exact h1

theorem bare_parts {v : Val} (h : bareV v = true) (hp : parted v.kind = false) : v.l = [] := by
  unfold bareV at h
  simp only [Bool.and_eq_true, Bool.or_eq_true, hp, Bool.false_eq_true, false_or, decide_eq_true_eq, List.length_eq_zero_iff] at h
  exact h.1.1.2
theorem szV_nil {v : Val} (h : v.l = []) : szV v = 1 := by rw [szV_eq, h]; rfl

theorem canon_all (d : List Dsc) (hd : ∀ r, r ∈ d → BD (2 ^ 30) r) (ho : TabOk d) : ∀ (room : Nat), room ≤ 40 → ∀ (t : Int) (v : Val), inT d t → mxV v ≤ 2 ^ 48 → szV v ≤ 2 ^ 40 → hasV d room t v = true →
    ∀ h, EvR E0 19 [rowv d t room, valv v] h (valv (canV d room t v)) := by
  intro room
  induction room with
  | zero =>
    intro _ t v ht hv hs hh h
    have hr := rowAt_get ht
    have hm := List.mem_of_getElem? hr
    obtain ⟨h1, h2, h3, h4⟩ := hasF_kind hh
    have hp : parted v.kind = false := by rw [h1]; exact h2 rfl
    have hnp : ¬ (parted v.kind = true) := by rw [hp]; simp
    have hvl := szVs_len v.l
    have hsv := szV_eq v
    have := canon_step d t.toNat (rowAt d t) 0 (by omega) v (fun _ x => x) hr (hd _ hm) hv (by omega) (fun hk => absurd (by simp [parted, hk]) hnp) (fun hk => absurd (by simp [parted, hk]) hnp) (fun hk => absurd hk hnp)
      (fun hk => absurd (by simp [parted, hk]) hnp) (fun hk => absurd (by simp [parted, hk]) hnp) (fun hk => absurd (by simp [parted, hk]) hnp) h
    rw [inT_nat ht] at this
    exact this
  | succ k ih =>
    intro hk40 t v ht hv hs hh h
    have ih := ih (by omega)
    have hr := rowAt_get ht
    have hm := List.mem_of_getElem? hr
    obtain ⟨h1, h2, h3, h4⟩ := hasF_kind hh
    have hvl := szVs_len v.l
    have hsv := szV_eq v
    have hro := ho.rows _ hm
    have := canon_step d t.toNat (rowAt d t) (k + 1) hk40 v (canV d k) hr (hd _ hm) hv (by omega) (fun hk => ?_) (fun hk f hf hn => ?_) (fun _ => by omega)
      (fun hk f hf x hx h => ?_) (fun hk f hf hn x hx h => ?_) (fun hk x hx h => ?_) h
    · rw [inT_nat ht] at this
      exact this
    · -- as many names as parts
      rw [h1] at hk
      simp only [kindF, hk, Int.reduceEq, decide_true, decide_false, cond_true, cond_false, seqF, Bool.and_eq_true, decide_eq_true_eq] at h4
      exact h4.1
    · rw [h1] at hk
      simp only [kindF, hk, Int.reduceEq, decide_true, decide_false, cond_true, cond_false, choF] at h4
      split at h4
      · cases h4
      · simp only [Bool.and_eq_true, decide_eq_true_eq] at h4
        intro hnil; rw [hnil] at h4; simp at h4
    · rw [h1] at hk
      simp only [kindF, hk, Int.reduceEq, decide_true, decide_false, cond_true, cond_false, seqF, Bool.and_eq_true, decide_eq_true_eq] at h4
      unfold pick at hx
      split at hx
      · rename_i hge
        rcases idx_find (fun x => decide (f.name = x)) v.names 0 with ⟨e0, e2⟩ | ⟨j, a, e0, e1, e2⟩
        · rw [e2] at hge; omega
        · rw [e2, Nat.zero_add, Int.toNat_natCast] at hx
          have ha : f.name = a := by have := List.find?_some e1; simpa using this
          obtain ⟨f', hf', hn', x', hx', hB'⟩ := seqW_get _ _ _ _ h4.1 h4.2 j a e0
          rw [hx] at hx'; cases hx'
          have := ho.once _ hm f f' hf hf' (by rw [hn', ha])
          subst this
          have hxm := List.mem_of_getElem? hx
          exact ih f.t x (hro.1 f hf) (by have := hasV_mem hxm; omega) (by have := szVs_mem hxm; omega) hB' h
      · have hxm : x ∈ f.dfl := by
          cases hdf : f.dfl with
          | nil => rw [hdf] at hx; cases hx
          | cons y ys => rw [hdf] at hx; cases hx; exact List.mem_cons_self
        obtain ⟨hs1, hs2⟩ := ho.dfl _ hm f hf x hxm
        have hbx := (hasF_kind (by rw [hasV_simple hs1 40 0] at hs2; exact hs2)).2.2.1
        have hpx : parted x.kind = false := by
          simp only [simpK, Bool.or_eq_true, decide_eq_true_eq] at hs1
          simp only [parted, Bool.or_eq_false_iff, decide_eq_false_iff_not]; omega
        have hBf := (hd _ hm).fields f hf
        exact ih f.t x (hro.1 f hf) (by have := mxVs_mem hxm; have := hBf.2; omega) (by rw [szV_nil (bare_parts hbx hpx)]; omega) (by rw [hasV_simple hs1 k 40]; exact hs2) h
    · rw [h1] at hk
      simp only [kindF, hk, Int.reduceEq, decide_true, decide_false, cond_true, cond_false, choF] at h4
      split at h4
      · cases h4
      · rename_i f' hff
        simp only [Bool.and_eq_true, decide_eq_true_eq] at h4
        have hf'm := List.mem_of_find?_eq_some hff
        have hf'n : f'.name = v.s := by have := List.find?_some hff; simpa using this
        have := ho.once _ hm f f' hf hf'm (by rw [hn, hf'n])
        subst this
        cases hvv : v.l with
        | nil => rw [hvv] at hx; cases hx
        | cons y ys =>
          rw [hvv] at hx h4; cases hx
          have hxm : x ∈ v.l := by rw [hvv]; exact List.mem_cons_self
          exact ih f.t x (hro.1 f hf) (by have := hasV_mem hxm; omega) (by have := szVs_mem hxm; omega) (by simpa [oneF] using h4.2) h
    · rw [h1] at hk
      simp only [kindF, hk, Int.reduceEq, decide_true, decide_false, cond_true, cond_false, Bool.and_eq_true, Bool.not_eq_true', List.any_eq_false, Bool.not_eq_false] at h4
      exact ih _ x hro.2 (by have := hasV_mem hx; omega) (by have := szVs_mem hx; omega) (by simpa using h4.2 x hx) h

def ac28 : ACode := (.seq (.region [oq 1 (.box (tq 0)), oq 2 (.move (cb false))]) (.seq (.region [oq 3 (ql 1), oq 4 (qn 3), oq 5 (.bin .gtr (tq 4) (ci 0)), oq 6 (qm 5), og 7 (ql 1) 6 true, og 8 (qn 7) 6 true, og 9 (.bin .leq (tq 8) (ci 4096)) 6 true, oq 10 (.pick (tq 6) (tq 9) (cb false)), oq 11 (qm 10), og 12 (ql 1) 11 true, og 13 (.mkFunc (.func 44) [] [(tq 1)]) 11 true, og 14 (.call (.func 43) [((tq 12), false), ((tq 13), false)]) 11 true, og 15 (.un .not (tq 14)) 11 true, oq 16 (.pick (tq 11) (tq 15) (cb false)), oq 2 (qm 16)]) .ret))
theorem c28 : cfn E0.P [] Tryz.f28 = some (ac28, [(.tmp 2)], 17) := by kernel_rfl
def ac44 : ACode := (.seq (.region [oq 2 (.box (tq 0)), oq 3 (.move (cb false))]) (.seq (.region [oq 4 (qs 12 2), oq 5 (ql 1), oq 6 (qn 5), oq 7 (.call (.func 45) [((tq 4), false), ((tq 6), false)]), oq 8 (.un .not (tq 7)), oq 3 (qm 8)]) .ret))
theorem c44 : cfn E0.P [] Tryz.f44 = some (ac44, [(.tmp 3)], 9) := by kernel_rfl

def tabT (d : List Dsc) : Bool := decide (0 < d.length) && (decide (d.length ≤ 4096) && !d.any fun r => !rowT r d.length)
theorem tab_ev (d : List Dsc) (hd : ∀ r, r ∈ d → BD (2 ^ 30) r) (hl : d.length < 2 ^ 40) (h : List AObj) : EvR E0 28 [dscl d] h (boolv (tabT d)) := by
  refine ev_of (fn := Tryz.f28) (hs := []) Tryz.func28 c28 (by simp) fun hcl => ?_
  have d1 : decide ((0 : Int) < (d.length : Int)) = decide (0 < d.length) := by rw [decide_eq_decide]; omega
  have d2 : decide ((d.length : Int) ≤ 4096) = decide (d.length ≤ 4096) := by rw [decide_eq_decide]; omega
  have hc := fun (h' : List AObj) (id : Nat) (hid : h'[id]? = some (AObj.cells [dscl d])) => dsc_any d 44 [.ref id 0] (fun r => !rowT r d.length) h' (by omega) fun x hx => by
    show EvR E0 44 [dscv x, .ref id 0] h' _
    refine ev_of (fn := Tryz.f44) (hs := []) Tryz.func44 c44 (by simp) fun hcl => ?_
    have hid2 := fun (l : List AObj) => app_get hid l
    have hrw := fun h => row2_ev x d.length (hd x hx) h
    simp only [dscv_eq] at hrw
    simp only [ac44, dscv_eq, hid2, awH, ↓awD, awP, Nat.reduceLeDiff, Nat.reduceEqDiff, Nat.reduceAdd, Int.reduceLT, Int.reduceLE, Int.reduceEq]
    repeat' ((first | refine EvF.ret (hrw _) ?_ | refine EvRF.ret (hrw _) ?_); simp only [hid2, aw21, awH, ↓awD, awP, Nat.reduceLeDiff, Nat.reduceEqDiff, Nat.reduceAdd, Int.reduceLT, Int.reduceLE, Int.reduceEq])
    all_goals exact Fin.end hcl rfl (by first | rfl | exact (List.append_nil _).symm | (simp only [List.append_assoc]; rfl)) ⟨rfl, rfl⟩
  have g0 : ∀ J : List AObj, (h ++ [AObj.cells [dscl d]] ++ J)[h.length]? = some (AObj.cells [dscl d]) := fun J => by simp
  have g1 : (h ++ [AObj.cells [dscl d]])[h.length]? = some (AObj.cells [dscl d]) := by simp
  simp only [ac28, d1, d2, g1, awH, ↓awD, awP, Nat.reduceLeDiff, Nat.reduceEqDiff, Nat.reduceAdd, Int.reduceLT, Int.reduceLE, Int.reduceEq]
  repeat' (first | ((first | refine EvF.ret (hc _ _ g1) ?_ | refine EvRF.ret (hc _ _ g1) ?_); simp only [d1, d2, g1, aw21, awH, ↓awD, awP, Nat.reduceLeDiff, Nat.reduceEqDiff, Nat.reduceAdd, Int.reduceLT, Int.reduceLE, Int.reduceEq]) | (refine BrF.mk (fun hb => ?_) (fun hb => ?_) <;> (try rw [hb]) <;> simp only [d1, d2, g1, aw21, awH, ↓awD, awP, Nat.reduceLeDiff, Nat.reduceEqDiff, Nat.reduceAdd, Int.reduceLT, Int.reduceLE, Int.reduceEq]))
  all_goals (refine Fin.end hcl rfl (by first | rfl | exact (List.append_nil _).symm | (simp only [List.append_assoc]; rfl)) ⟨?_, rfl⟩; clear hc; simp only [tabT, *, Bool.not_true, Bool.not_false, Bool.true_and, Bool.false_and])

theorem onceW_iff : ∀ (l m : List ByteArray), onceW m l = true ↔ (∀ x, x ∈ l → x ∉ m) ∧ l.Nodup
  | [], m => by simp [onceW]
  | s :: l, m => by
    have ih := onceW_iff l (m ++ [s])
    unfold onceW
    by_cases h : hasS m s = true
    · have hm := hasS_iff.1 h
      simp only [h, Bool.not_true, Bool.false_and, Bool.false_eq_true, false_iff]
      exact fun hh => hh.1 s (by simp) hm
    · have hm : s ∉ m := fun hh => h (hasS_iff.2 hh)
      simp only [h, Bool.not_false, Bool.true_and, ih, List.mem_cons, forall_eq_or_imp, List.nodup_cons, List.mem_append, List.not_mem_nil, or_false]
      constructor
      · rintro ⟨h1, h2⟩
        exact ⟨⟨hm, fun x hx => fun hh => h1 x hx (.inl hh)⟩, fun hh => h1 s hh (.inr rfl), h2⟩
      · rintro ⟨⟨_, h1⟩, h2, h3⟩
        exact ⟨fun x hx hh => by rcases hh with hh | rfl; exact h1 x hx hh; exact h2 hx, h3⟩
theorem once_fields {l : List Fld} (h : onceT (l.map (·.name)) = true) : ∀ f f', f ∈ l → f' ∈ l → f.name = f'.name → f = f' := by
  have hn := ((onceW_iff _ _).1 h).2
  clear h
  induction l with
  | nil => intro f f' h; cases h
  | cons a l ih =>
    simp only [List.map_cons, List.nodup_cons] at hn
    intro f f' hf hf' he
    rcases List.mem_cons.1 hf with rfl | hg <;> rcases List.mem_cons.1 hf' with rfl | hg'
    · rfl
    · exact absurd (show f.name ∈ l.map (·.name) from List.mem_map.2 ⟨f', hg', he.symm⟩) hn.1
    · exact absurd (show f'.name ∈ l.map (·.name) from List.mem_map.2 ⟨f, hg, he⟩) hn.1
    · exact ih hn.2 f f' hg hg' he
theorem bifF (b c : Bool) : (bif b then false else c) = (!b && c) := by cases b <;> rfl
theorem row_facts {r : Dsc} {n : Nat} (h : rowT r n = true) : letsT r = true ∧ namesT r = true ∧ fieldsT r.parts n (decide (r.kind = 10)) = true ∧ fieldsT r.adds n (decide (r.kind = 10)) = true ∧ rowT5 r n = true := by
  simp only [rowT, rowT1, rowT2, rowT3, rowT4, bifF, Bool.and_eq_true, Bool.not_eq_true', Bool.or_eq_false_iff, Bool.not_eq_false'] at h
  exact ⟨h.1.2.2.1, h.1.2.2.2, h.2.2.2.1.1, h.2.2.2.1.2.1, h.2.2.2.2.2⟩
theorem fields_facts {l : List Fld} {n : Nat} {ch : Bool} (h : fieldsT l n ch = true) : ∀ f, f ∈ l → (0 ≤ f.t ∧ f.t < n) ∧ f.dfl.length ≤ 1 := by
  intro f hf
  simp only [fieldsT, Bool.and_eq_true, Bool.not_eq_true', List.any_eq_false] at h
  have := h.2 f hf
  simp only [badF, Bool.or_eq_true, decide_eq_true_eq, not_or] at this
  omega
theorem rows_ok {d : List Dsc} (h : tabT d = true) : RowsOk d ∧ 0 < d.length ∧ ∀ r, r ∈ d → (∀ f, f ∈ r.fields → f.dfl.length ≤ 1) ∧ ∀ f f', f ∈ r.fields → f' ∈ r.fields → f.name = f'.name → f = f' := by
  simp only [tabT, Bool.and_eq_true, decide_eq_true_eq, Bool.not_eq_true', List.any_eq_false, Bool.not_eq_false] at h
  refine ⟨fun r hr => ?_, h.1, fun r hr => ?_⟩
  · obtain ⟨_, _, h3, h4, h5⟩ := row_facts (by simpa using h.2.2 r hr)
    refine ⟨fun f hf => ?_, ?_⟩
    · rcases List.mem_append.1 hf with hf | hf
      · exact (fields_facts h3 f hf).1
      · exact (fields_facts h4 f hf).1
    · unfold rowT5 at h5
      cases hk : decide (r.kind = 9) <;> rw [hk] at h5
      · simp only [cond_false, decide_eq_true_eq] at h5
        exact ⟨by omega, by omega⟩
      · simp only [cond_true, Bool.and_eq_true, decide_eq_true_eq] at h5
        exact h5
  · obtain ⟨_, h2, h3, h4, _⟩ := row_facts (by simpa using h.2.2 r hr)
    refine ⟨fun f hf => ?_, once_fields ?_⟩
    · rcases List.mem_append.1 hf with hf | hf
      · exact (fields_facts h3 f hf).2
      · exact (fields_facts h4 f hf).2
    · simp only [namesT, Bool.and_eq_true] at h2
      exact h2.2.1

def dflT (d : List Dsc) (r : Dsc) : Bool := !r.fields.any fun f => f.dfl.any fun x => !(simpK x.kind && hasV d 40 f.t x)
def rightT (d : List Dsc) : Bool := tabT d && d.all (dflT d)
theorem tab_ok {d : List Dsc} (h : rightT d = true) : TabOk d ∧ 0 < d.length := by
  simp only [rightT, Bool.and_eq_true, List.all_eq_true] at h
  obtain ⟨h1, h2, h3⟩ := rows_ok h.1
  refine ⟨⟨h1, fun r hr => (h3 r hr).2, fun r hr f hf x hx => ?_⟩, h2⟩
  have := h.2 r hr
  simp only [dflT, Bool.not_eq_true', List.any_eq_false, Bool.not_eq_true', Bool.not_eq_false] at this
  have := this f hf
  simp only [List.any_eq_true, Bool.not_eq_true', not_exists, not_and, Bool.not_eq_false, Bool.and_eq_true] at this
  simpa using this x hx

def ac15 : ACode := (.seq (.region [oq 3 (.box (tq 1)), oq 4 (.move (ci 0))]) (.seq (.block 0 (.seq (.region [oq 6 (qm 0), oq 7 (.call (.func 17) [((tq 6), false)]), oq 8 (.un .not (tq 7)), oq 5 (qm 8)]) (.cond (tq 5) (.seq (.region [oq 4 (.move (ci 1))]) .ret) (.seq (.region [oq 10 (qs 5 3), oq 11 (.call (.func 25) [((tq 10), false), ((ci 40), false)]), oq 9 (qm 11)]) (.cond (tq 9) (.seq (.region [oq 4 (.move (ci 9))]) .ret) (.seq (.region [oq 13 (qm 0), oq 14 (.build [zn, zi, zi] [(0, (1, (tq 13))), (1, (1, (ci 0))), (2, (1, (ci 40)))]), oq 15 (qs 5 3), oq 16 (.call (.func 26) [((tq 14), false), ((tq 15), false)]), oq 12 (qm 16)]) (.cond (tq 12) (.seq (.region [oq 4 (.move (ci 4))]) .ret) .skip))))))) (.seq (.region [oq 4 (.move (ci 0))]) .ret)))
theorem c15 : cfn E0.P [] Tryz.f15 = some (ac15, [(.tmp 4)], 17) := by kernel_rfl
def ac17 : ACode := (.seq (.region [oq 2 (.move (cb false))]) (.seq (.seq (.region [oq 6 (qm 0), oq 7 (.call (.func 28) [((tq 6), false)]), oq 8 (.un .not (tq 7))]) (.cond (tq 8) (.seq (.region [oq 2 (.move (cb false))]) .ret) .skip)) (.seq (.seq (.region [oq 9 (qm 0), oq 10 (qn 9), oq 11 (.move (ci 0))]) (.block 0 (.loop (.seq (.region [oq 12 (.bin .lss (tq 11) (tq 10))]) (.seq (.cond (tq 12) .skip (.exit 0)) (.seq (.block 1 (.seq (.region [oq 13 (qm 11), oq 3 (qm 13)]) (.seq (.region [oq 14 (qm 0), oq 15 (qm 3), oq 16 (.build [zn, zi, zi] [(0, (1, (tq 14))), (1, (1, (tq 15))), (2, (1, (ci 0)))]), oq 17 (.call (.func 29) [((tq 16), false)]), oq 18 (qn 17), oq 19 (.move (ci 0))]) (.block 2 (.loop (.seq (.region [oq 20 (.bin .lss (tq 19) (tq 18))]) (.seq (.cond (tq 20) .skip (.exit 2)) (.seq (.block 3 (.seq (.region [oq 21 (qx 4 17 19), oq 22 (qs 4 21), oq 5 (.alloc [zs, zi, zb, zn]), oz (.store 4 (tq 5) (tq 22))]) (.seq (.region [oq 23 (qf 3 5), oq 24 (ql 23), oq 25 (qm 0), oq 26 (qf 1 5), oq 27 (ql 26), oq 28 (.build [zn, zi, zi] [(0, (1, (tq 25))), (1, (1, (tq 27))), (2, (1, (ci 40)))]), oq 29 (.mkFunc (.func 31) [(tq 28)] []), oq 30 (.call (.func 30) [((tq 24), false), ((tq 29), false)])]) (.cond (tq 30) (.seq (.region [oq 2 (.move (cb false))]) .ret) .skip)))) (.region [oq 31 (.bin .add (tq 19) (ci 1)), oq 19 (qm 31)]))))))))) (.region [oq 32 (.bin .add (tq 11) (ci 1)), oq 11 (qm 32)]))))))) (.seq (.region [oq 2 (.move (cb true))]) .ret))))
theorem c17 : cfn E0.P [] Tryz.f17 = some (ac17, [(.tmp 2)], 33) := by kernel_rfl

theorem mright_ev (d : List Dsc) (hd : ∀ r, r ∈ d → BD (2 ^ 30) r) (hl : d.length < 2 ^ 30) (h : List AObj) : EvR E0 17 [dscl d] h (boolv (rightT d)) := by
  refine ev_of (fn := Tryz.f17) (hs := []) Tryz.func17 c17 (by simp) fun hcl => ?_
  have ht := fun h => tab_ev d hd (by omega) h
  cases htt : tabT d
  · rw [htt] at ht
    have hR : rightT d = false := by simp [rightT, htt]
    rw [hR]
    simp only [ac17, awH, ↓awD, awP, Nat.reduceLeDiff, Nat.reduceEqDiff, Nat.reduceAdd, Int.reduceLT, Int.reduceLE, Int.reduceEq]
    ((first | refine EvF.ret (ht _) ?_ | refine EvRF.ret (ht _) ?_); simp only [aw21, aw21, awH, ↓awD, awP, Nat.reduceLeDiff, Nat.reduceEqDiff, Nat.reduceAdd, Int.reduceLT, Int.reduceLE, Int.reduceEq])
    exact Fin.end hcl rfl (by first | rfl | exact (List.append_nil _).symm | (simp only [List.append_assoc]; rfl)) ⟨rfl, rfl⟩
  · rw [htt] at ht
    obtain ⟨hro, hpos, hro3⟩ := rows_ok htt
    have hR : rightT d = d.all (dflT d) := by simp [rightT, htt]
    rw [hR]
    generalize hRR : d.all (dflT d) = R
    simp only [ac17, awH, ↓awD, awP, Nat.reduceLeDiff, Nat.reduceEqDiff, Nat.reduceAdd, Int.reduceLT, Int.reduceLE, Int.reduceEq]
    ((first | refine EvF.ret (ht _) ?_ | refine EvRF.ret (ht _) ?_); simp only [aw21, aw21, awH, ↓awD, awP, Nat.reduceLeDiff, Nat.reduceEqDiff, Nat.reduceAdd, Int.reduceLT, Int.reduceLE, Int.reduceEq])
    refine LoopF.list d (by omega) (γ := List AObj) (fun i J => ⟨[(0, dscl d), (10, i64 d.length), (11, i64 i)], h ++ J⟩) (fun i J => (d.drop i).all (dflT d) = R) [] (by simpa using hRR) (weak_of (by simp) (by simp [look])) ?_ ?_
    · rintro i r J ha hv hi e1 w3
      rw [drop_get ha, List.all_cons] at hv
      have hrm := List.mem_of_getElem? ha
      have hBD := hd r hrm
      have hfl : r.parts.length + r.adds.length ≤ 2 ^ 40 := by have := hBD.2.2.2.2.1; have := hBD.2.2.2.2.2.1; omega
      have hfs := fun h => fields_ev d i r (0 : Int) ha hfl h
      simp only [e1, w3, awH, ↓awD, awP, Nat.reduceLeDiff, Nat.reduceEqDiff, Nat.reduceAdd, Int.reduceLT, Int.reduceLE, Int.reduceEq]
      ((first | refine EvF.ret (hfs _) ?_ | refine EvRF.ret (hfs _) ?_); simp only [w3, aw21, awH, ↓awD, awP, Nat.reduceLeDiff, Nat.reduceEqDiff, Nat.reduceAdd, Int.reduceLT, Int.reduceLE, Int.reduceEq])
      have hfl2 : r.fields.length < 2 ^ 60 := by simp only [Dsc.fields, List.length_append]; omega
      generalize hrest : (d.drop (i + 1)).all (dflT d) = rest at hv
      have hv' : (!r.fields.any (fun f => f.dfl.any fun x => !(simpK x.kind && hasV d 40 f.t x)) && rest) = R := hv
      refine LoopF.list r.fields hfl2 (γ := List AObj) (fun j J => ⟨[(0, dscl d), (10, i64 d.length), (11, i64 i), (17, fldl r.fields), (18, i64 r.fields.length), (19, i64 j)], h ++ J⟩)
        (fun j J => (!(r.fields.drop j).any (fun f => f.dfl.any fun x => !(simpK x.kind && hasV d 40 f.t x)) && rest) = R) J (by simpa using hv') (weak_of rfl (by simp [look])) ?_ ?_
      · rintro j f J2 hfa hvj hj e2 w4
        rw [drop_get hfa, List.any_cons] at hvj
        have hfm := List.mem_of_getElem? hfa
        have hBf := hBD.fields f hfm
        have hga := map_get fldv r.fields j f hfa
        have hft := (hro r hrm).1 f hfm
        have hdl := (hro3 r hrm).1 f hfm
        have hany := fun h => has_any f.dfl 31 [rowv d f.t 40] (fun x => !(simpK x.kind && hasV d 40 f.t x)) h (by omega) fun x hx => noDefault_ev d hd hro f.t x hft (by have := mxVs_mem hx; have := hBf.2; omega) h
        simp only [e2, w4, getJ, setJ, awH, ↓awD, awP, Nat.reduceLeDiff, Nat.reduceEqDiff, Nat.reduceAdd, Int.reduceLT, Int.reduceLE, Int.reduceEq]
        repeat' (first | ((try refine Need.mk (by first | (first | omega | (simp only [awO] at *; omega) | (simp; omega)) | (constructor <;> (first | omega | (simp only [awO] at *; omega) | (simp; omega)))) ?_); refine Elem.recs hga (by first | (rw [fldv_eq]; exact ⟨rfl, rfl⟩) | exact ⟨rfl, rfl⟩) ?_; simp only [fldv_eq, w4, getJ, setJ, aw21, awH, ↓awD, awP, Nat.reduceLeDiff, Nat.reduceEqDiff, Nat.reduceAdd, Int.reduceLT, Int.reduceLE, Int.reduceEq]) | ((first | refine EvF.ret (hany _) ?_ | refine EvRF.ret (hany _) ?_); simp only [w4, getJ, setJ, aw21, awH, ↓awD, awP, Nat.reduceLeDiff, Nat.reduceEqDiff, Nat.reduceAdd, Int.reduceLT, Int.reduceLE, Int.reduceEq]) | (refine BrF.mk (fun hb => ?_) (fun hb => ?_) <;> (try rw [hb]) <;> simp only [w4, getJ, setJ, aw21, awH, ↓awD, awP, Nat.reduceLeDiff, Nat.reduceEqDiff, Nat.reduceAdd, Int.reduceLT, Int.reduceLE, Int.reduceEq]))
        · simp only [hb, Bool.true_or, Bool.not_true, Bool.false_and] at hvj
          subst hvj
          exact Fin.end hcl rfl (by first | rfl | exact (List.append_nil _).symm | (simp only [List.append_assoc]; rfl)) ⟨rfl, rfl⟩
        · simp only [hb, Bool.false_or] at hvj
          exact ⟨(j + 1, J2 ++ [AObj.cells [str f.name, i64 f.t, boolv f.opt, vall f.dfl]]), ⟨hj, hvj⟩, by simp only; omega, weak_of (List.append_assoc ..).symm (by simp [look])⟩
      · rintro J2 hvj e2
        rw [drop_len] at hvj
        simp only [List.any_nil, Bool.not_false, Bool.true_and] at hvj
        simp only [e2, w3, awH, ↓awD, awP, Nat.reduceLeDiff, Nat.reduceEqDiff, Nat.reduceAdd, Int.reduceLT, Int.reduceLE, Int.reduceEq]
        exact ⟨(i + 1, J2), ⟨hi, by rw [hrest]; exact hvj⟩, by simp only; omega, weak_of rfl (by simp [look])⟩
    · rintro J hv e1
      rw [drop_len] at hv
      simp only [List.all_nil] at hv
      subst hv
      simp only [e1, awH, ↓awD, awP, Nat.reduceLeDiff, Nat.reduceEqDiff, Nat.reduceAdd, Int.reduceLT, Int.reduceLE, Int.reduceEq]
      exact Fin.end hcl rfl (by first | rfl | exact (List.append_nil _).symm | (simp only [List.append_assoc]; rfl)) ⟨rfl, rfl⟩
def checkT (d : List Dsc) (v : Val) : Int := bif !rightT d then 1 else bif deepV 40 v then 9 else bif !hasV d 40 0 v then 4 else 0
theorem check_ev (d : List Dsc) (hd : ∀ r, r ∈ d → BD (2 ^ 30) r) (hl : d.length < 2 ^ 30) (v : Val) (hv : mxV v ≤ 2 ^ 48) (h : List AObj) : EvR E0 15 [dscl d, valv v] h (i64 (checkT d v)) := by
  refine ev_of (fn := Tryz.f15) (hs := []) Tryz.func15 c15 (by simp) fun hcl => ?_
  have hr := fun h => mright_ev d hd hl h
  have hde := fun h => deep_ev 40 (Nat.le_refl _) v h hv
  unfold checkT
  cases hrt : rightT d
  · rw [hrt] at hr
    simp only [ac15, valv_eq, awH, ↓awD, awP, Nat.reduceLeDiff, Nat.reduceEqDiff, Nat.reduceAdd, Int.reduceLT, Int.reduceLE, Int.reduceEq]
    repeat' ((first | refine EvF.ret (hr _) ?_ | refine EvRF.ret (hr _) ?_); simp only [aw21, aw21, awH, ↓awD, awP, Nat.reduceLeDiff, Nat.reduceEqDiff, Nat.reduceAdd, Int.reduceLT, Int.reduceLE, Int.reduceEq])
    exact Fin.end hcl rfl (by first | rfl | exact (List.append_nil _).symm | (simp only [List.append_assoc]; rfl)) ⟨rfl, rfl⟩
  · rw [hrt] at hr
    obtain ⟨hok, hpos⟩ := tab_ok hrt
    have hin : inT d 0 := ⟨Int.le_refl _, by omega⟩
    have hhn := fun h => hasNot_of d 0 40 v (hasV d 40 0 v) (fun h => has_all d hd hok.rows 40 (Nat.le_refl _) 0 v hin hv h) h
    simp only [valv_eq] at hde hhn
    simp only [ac15, valv_eq, awH, ↓awD, awP, Nat.reduceLeDiff, Nat.reduceEqDiff, Nat.reduceAdd, Int.reduceLT, Int.reduceLE, Int.reduceEq]
    repeat' (first | ((first | refine EvF.ret (hr _) ?_ | refine EvRF.ret (hr _) ?_); simp only [aw21, aw21, awH, ↓awD, awP, Nat.reduceLeDiff, Nat.reduceEqDiff, Nat.reduceAdd, Int.reduceLT, Int.reduceLE, Int.reduceEq]) | ((first | refine EvF.ret (hde _) ?_ | refine EvRF.ret (hde _) ?_); simp only [aw21, aw21, awH, ↓awD, awP, Nat.reduceLeDiff, Nat.reduceEqDiff, Nat.reduceAdd, Int.reduceLT, Int.reduceLE, Int.reduceEq]) | ((first | refine EvF.ret (hhn _) ?_ | refine EvRF.ret (hhn _) ?_); simp only [aw21, aw21, awH, ↓awD, awP, Nat.reduceLeDiff, Nat.reduceEqDiff, Nat.reduceAdd, Int.reduceLT, Int.reduceLE, Int.reduceEq]) | (refine BrF.mk (fun hb => ?_) (fun hb => ?_) <;> (try rw [hb]) <;> simp only [aw21, aw21, awH, ↓awD, awP, Nat.reduceLeDiff, Nat.reduceEqDiff, Nat.reduceAdd, Int.reduceLT, Int.reduceLE, Int.reduceEq]))
    all_goals (refine Fin.end hcl rfl (by first | rfl | exact (List.append_nil _).symm | (simp only [List.append_assoc]; rfl)) ⟨?_, rfl⟩; clear hr hde hhn; simp [*])
end Go.Abs.Fr
