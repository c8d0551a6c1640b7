/- Values of tables' types: whether a value is of a row. -/
import Derived.Test.YtloimemacnjpgaaGreatS15M1
set_option linter.all false
namespace Go.Abs.Fr
open Go Go.Abs Go.Proofs
set_option linter.unusedSimpArgs false
set_option maxRecDepth 100000

/-- (spandrel/member.row).hasNot -/
def ac26 : ACode := (.seq (.region [⟨(some 2), (.box (.tmp 0)), none⟩, ⟨(some 3), (.box (.tmp 1)), none⟩, ⟨(some 4), (.move (.const (.bool false))), none⟩]) (.seq (.region [⟨(some 5), (.load (some 3) (.tmp 2)), none⟩, ⟨(some 6), (.load (some 5) (.tmp 3)), none⟩, ⟨(some 7), (.call (.func 42) [((.tmp 5), false), ((.tmp 6), false)]), none⟩, ⟨(some 8), (.un .not (.tmp 7)), none⟩, ⟨(some 4), (.move (.tmp 8)), none⟩]) .ret))
theorem c26 : cfn E0.P [] Tryz.f26 = some (ac26, [(.tmp 4)], 9) := by kernel_rfl
/-- (spandrel/member.row).has -/
def ac42 : ACode := (.seq (.region [⟨(some 2), (.box (.tmp 0)), none⟩, ⟨(some 3), (.box (.tmp 1)), none⟩, ⟨(some 4), (.move (.const (.bool false))), none⟩]) (.seq (.region [⟨(some 7), (.load (some 3) (.tmp 2)), none⟩, ⟨(some 8), (.call (.func 34) [((.tmp 7), false)]), none⟩, ⟨(some 5), (.alloc [(.lit (.int .i64 0)), (.lit (.bool false)), (.sl .full []), (.lit (.int .i64 0)), (.lit (.int .i64 0)), (.lit (.string (⟨#[]⟩ : ByteArray))), (.sl .full []), (.sl .full []), (.sl .full []), (.sl .full []), (.sl .full []), (.lit (.int .i64 0))]), none⟩, ⟨none, (.store 12 (.tmp 5) (.tmp 8)), none⟩]) (.seq (.seq (.region [⟨(some 9), (.fieldAddr 2 (.tmp 2)), none⟩, ⟨(some 10), (.load none (.tmp 9)), none⟩, ⟨(some 11), (.bin .eql (.tmp 10) (.const (.int .i64 0))), none⟩, ⟨(some 12), (.move (.tmp 11)), none⟩, ⟨(some 13), (.fieldAddr 0 (.tmp 5)), (some (12, true))⟩, ⟨(some 14), (.load none (.tmp 13)), (some (12, true))⟩, ⟨(some 15), (.call (.func 40) [((.tmp 14), false)]), (some (12, true))⟩, ⟨(some 16), (.pick (.tmp 12) (.tmp 15) (.const (.bool false))), none⟩, ⟨(some 17), (.move (.tmp 16)), none⟩, ⟨(some 18), (.fieldAddr 0 (.tmp 3)), (some (17, false))⟩, ⟨(some 19), (.load none (.tmp 18)), (some (17, false))⟩, ⟨(some 20), (.fieldAddr 0 (.tmp 5)), (some (17, false))⟩, ⟨(some 21), (.load none (.tmp 20)), (some (17, false))⟩, ⟨(some 22), (.bin .neq (.tmp 19) (.tmp 21)), (some (17, false))⟩, ⟨(some 23), (.pick (.tmp 17) (.const (.bool true)) (.tmp 22)), none⟩, ⟨(some 24), (.move (.tmp 23)), none⟩, ⟨(some 25), (.load (some 5) (.tmp 3)), (some (24, false))⟩, ⟨(some 26), (.call (.func 55) [((.tmp 25), false)]), (some (24, false))⟩, ⟨(some 27), (.un .not (.tmp 26)), (some (24, false))⟩, ⟨(some 28), (.pick (.tmp 24) (.const (.bool true)) (.tmp 27)), none⟩]) (.cond (.tmp 28) (.seq (.region [⟨(some 4), (.move (.const (.bool false))), none⟩]) .ret) .skip)) (.seq (.seq (.region [⟨(some 29), (.fieldAddr 0 (.tmp 5)), none⟩, ⟨(some 30), (.load none (.tmp 29)), none⟩]) (.block 0 (.seq (.region [⟨(some 32), (.bin .eql (.tmp 30) (.const (.int .i64 1))), none⟩, ⟨(some 31), (.move (.tmp 32)), none⟩]) (.cond (.tmp 31) (.seq (.region [⟨(some 33), (.fieldAddr 1 (.tmp 3)), none⟩, ⟨(some 34), (.load none (.tmp 33)), none⟩, ⟨(some 35), (.bin .shr (.tmp 34) (.const (.int .u64 1))), none⟩, ⟨(some 36), (.bin .eql (.tmp 35) (.const (.int .i64 0))), none⟩, ⟨(some 4), (.move (.tmp 36)), none⟩]) .ret) (.seq (.region [⟨(some 38), (.bin .eql (.tmp 30) (.const (.int .i64 2))), none⟩, ⟨(some 37), (.move (.tmp 38)), none⟩]) (.cond (.tmp 37) (.seq (.region [⟨(some 39), (.fieldAddr 1 (.tmp 5)), none⟩, ⟨(some 40), (.load none (.tmp 39)), none⟩, ⟨(some 41), (.move (.tmp 40)), none⟩, ⟨(some 42), (.fieldAddr 2 (.tmp 5)), (some (41, false))⟩, ⟨(some 43), (.load none (.tmp 42)), (some (41, false))⟩, ⟨(some 44), (.fieldAddr 1 (.tmp 3)), (some (41, false))⟩, ⟨(some 45), (.load none (.tmp 44)), (some (41, false))⟩, ⟨(some 46), (.call (.func 56) [((.tmp 43), false), ((.tmp 45), false)]), (some (41, false))⟩, ⟨(some 47), (.pick (.tmp 41) (.const (.bool true)) (.tmp 46)), none⟩, ⟨(some 4), (.move (.tmp 47)), none⟩]) .ret) (.seq (.region [⟨(some 49), (.bin .eql (.tmp 30) (.const (.int .i64 3))), none⟩, ⟨(some 48), (.move (.tmp 49)), none⟩]) (.cond (.tmp 48) (.seq (.region [⟨(some 50), (.fieldAddr 6 (.tmp 5)), none⟩, ⟨(some 51), (.load none (.tmp 50)), none⟩, ⟨(some 52), (.fieldAddr 2 (.tmp 3)), none⟩, ⟨(some 53), (.load none (.tmp 52)), none⟩, ⟨(some 54), (.call (.func 57) [((.tmp 51), false), ((.tmp 53), false)]), none⟩, ⟨(some 55), (.move (.tmp 54)), none⟩, ⟨(some 56), (.fieldAddr 7 (.tmp 5)), (some (55, false))⟩, ⟨(some 57), (.load none (.tmp 56)), (some (55, false))⟩, ⟨(some 58), (.fieldAddr 2 (.tmp 3)), (some (55, false))⟩, ⟨(some 59), (.load none (.tmp 58)), (some (55, false))⟩, ⟨(some 60), (.call (.func 57) [((.tmp 57), false), ((.tmp 59), false)]), (some (55, false))⟩, ⟨(some 61), (.pick (.tmp 55) (.const (.bool true)) (.tmp 60)), none⟩, ⟨(some 4), (.move (.tmp 61)), none⟩]) .ret) (.seq (.region [⟨(some 63), (.bin .eql (.tmp 30) (.const (.int .i64 5))), none⟩, ⟨(some 62), (.move (.tmp 63)), none⟩]) (.cond (.tmp 62) (.seq (.region [⟨(some 64), (.fieldAddr 2 (.tmp 3)), none⟩, ⟨(some 65), (.load none (.tmp 64)), none⟩, ⟨(some 66), (.call (.func 58) [((.tmp 65), false), ((.const (.string (⟨#[48, 49]⟩ : ByteArray))), false)]), none⟩, ⟨(some 67), (.move (.tmp 66)), none⟩, ⟨(some 68), (.load (some 3) (.tmp 2)), (some (67, true))⟩, ⟨(some 69), (.fieldAddr 2 (.tmp 3)), (some (67, true))⟩, ⟨(some 70), (.load none (.tmp 69)), (some (67, true))⟩, ⟨(some 71), (.len true (.tmp 70)), (some (67, true))⟩, ⟨(some 72), (.call (.func 59) [((.tmp 68), false), ((.tmp 71), false)]), (some (67, true))⟩, ⟨(some 73), (.pick (.tmp 67) (.tmp 72) (.const (.bool false))), none⟩, ⟨(some 4), (.move (.tmp 73)), none⟩]) .ret) (.seq (.region [⟨(some 75), (.bin .eql (.tmp 30) (.const (.int .i64 6))), none⟩, ⟨(some 74), (.move (.tmp 75)), none⟩]) (.cond (.tmp 74) (.seq (.region [⟨(some 76), (.load (some 3) (.tmp 2)), none⟩, ⟨(some 77), (.fieldAddr 2 (.tmp 3)), none⟩, ⟨(some 78), (.load none (.tmp 77)), none⟩, ⟨(some 79), (.len true (.tmp 78)), none⟩, ⟨(some 80), (.call (.func 59) [((.tmp 76), false), ((.tmp 79), false)]), none⟩, ⟨(some 4), (.move (.tmp 80)), none⟩]) .ret) (.seq (.region [⟨(some 82), (.bin .eql (.tmp 30) (.const (.int .i64 7))), none⟩, ⟨(some 81), (.move (.tmp 82)), none⟩]) (.cond (.tmp 81) (.seq (.region [⟨(some 83), (.fieldAddr 2 (.tmp 3)), none⟩, ⟨(some 84), (.load none (.tmp 83)), none⟩, ⟨(some 85), (.fieldAddr 5 (.tmp 5)), none⟩, ⟨(some 86), (.load none (.tmp 85)), none⟩, ⟨(some 87), (.call (.func 58) [((.tmp 84), false), ((.tmp 86), false)]), none⟩, ⟨(some 88), (.move (.tmp 87)), none⟩, ⟨(some 89), (.load (some 3) (.tmp 2)), (some (88, true))⟩, ⟨(some 90), (.fieldAddr 2 (.tmp 3)), (some (88, true))⟩, ⟨(some 91), (.load none (.tmp 90)), (some (88, true))⟩, ⟨(some 92), (.len true (.tmp 91)), (some (88, true))⟩, ⟨(some 93), (.call (.func 59) [((.tmp 89), false), ((.tmp 92), false)]), (some (88, true))⟩, ⟨(some 94), (.pick (.tmp 88) (.tmp 93) (.const (.bool false))), none⟩, ⟨(some 4), (.move (.tmp 94)), none⟩]) .ret) (.seq (.region [⟨(some 96), (.bin .eql (.tmp 30) (.const (.int .i64 8))), none⟩, ⟨(some 95), (.move (.tmp 96)), none⟩]) (.cond (.tmp 95) (.seq (.region [⟨(some 97), (.load (some 3) (.tmp 2)), none⟩, ⟨(some 98), (.load (some 5) (.tmp 3)), none⟩, ⟨(some 99), (.call (.func 60) [((.tmp 97), false), ((.tmp 98), false)]), none⟩, ⟨(some 4), (.move (.tmp 99)), none⟩]) .ret) (.seq (.region [⟨(some 101), (.bin .eql (.tmp 30) (.const (.int .i64 10))), none⟩, ⟨(some 100), (.move (.tmp 101)), none⟩]) (.cond (.tmp 100) (.seq (.region [⟨(some 102), (.load (some 3) (.tmp 2)), none⟩, ⟨(some 103), (.load (some 5) (.tmp 3)), none⟩, ⟨(some 104), (.call (.func 61) [((.tmp 102), false), ((.tmp 103), false)]), none⟩, ⟨(some 4), (.move (.tmp 104)), none⟩]) .ret) (.seq (.region [⟨(some 106), (.bin .eql (.tmp 30) (.const (.int .i64 9))), none⟩, ⟨(some 105), (.move (.tmp 106)), none⟩]) (.cond (.tmp 105) (.seq (.region [⟨(some 107), (.load (some 3) (.tmp 2)), none⟩, ⟨(some 108), (.fieldAddr 11 (.tmp 5)), none⟩, ⟨(some 109), (.load none (.tmp 108)), none⟩, ⟨(some 110), (.call (.func 33) [((.tmp 107), false), ((.tmp 109), false)]), none⟩, ⟨(some 111), (.mkFunc (.func 26) [(.tmp 110)] []), none⟩, ⟨(some 6), (.move (.tmp 111)), none⟩]) (.seq (.region [⟨(some 112), (.load (some 3) (.tmp 2)), none⟩, ⟨(some 113), (.fieldAddr 4 (.tmp 3)), none⟩, ⟨(some 114), (.load none (.tmp 113)), none⟩, ⟨(some 115), (.len false (.tmp 114)), none⟩, ⟨(some 116), (.call (.func 59) [((.tmp 112), false), ((.tmp 115), false)]), none⟩, ⟨(some 117), (.move (.tmp 116)), none⟩, ⟨(some 118), (.fieldAddr 4 (.tmp 3)), (some (117, true))⟩, ⟨(some 119), (.load none (.tmp 118)), (some (117, true))⟩, ⟨(some 120), (.move (.tmp 6)), (some (117, true))⟩, ⟨(some 121), (.call (.func 30) [((.tmp 119), false), ((.tmp 120), false)]), (some (117, true))⟩, ⟨(some 122), (.un .not (.tmp 121)), (some (117, true))⟩, ⟨(some 123), (.pick (.tmp 117) (.tmp 122) (.const (.bool false))), none⟩, ⟨(some 4), (.move (.tmp 123)), none⟩]) .ret)) .skip)))))))))))))))))))) (.seq (.region [⟨(some 4), (.move (.const (.bool true))), none⟩]) .ret)))))
theorem c42 : cfn E0.P [] Tryz.f42 = some (ac42, [(.tmp 4)], 124) := by kernel_rfl

def kindF (B : Int → Val → Bool) (r : Dsc) (v : Val) : Bool :=
  bif decide (r.kind = 1) then decide (v.n = 0) || decide (v.n = 1)
  else bif decide (r.kind = 2) then r.ext || inSet r.set v.n
  else bif decide (r.kind = 3) then (r.names.any fun x => decide (v.s = x)) || (r.more.any fun x => decide (v.s = x))
  else bif decide (r.kind = 5) then textOk v.s ⟨#[48, 49]⟩ && sizedOk r v.s.size
  else bif decide (r.kind = 6) then sizedOk r v.s.size
  else bif decide (r.kind = 7) then textOk v.s r.frm && sizedOk r v.s.size
  else bif decide (r.kind = 8) then seqF B r v
  else bif decide (r.kind = 10) then choF B r v
  else bif decide (r.kind = 9) then sizedOk r v.l.length && !(v.l.any fun x => !B r.elem x)
  else true
def hasF (B : Int → Val → Bool) (z : Bool) (r : Dsc) (v : Val) : Bool :=
  !(z && parted r.kind) && decide (v.kind = r.kind) && bareV v && kindF B r v

theorem shr1 (n : Int) : decide (n.fdiv (2 ^ (min (1 : Int).toNat IntKind.i64.bits)) = 0) = (decide (n = 0) || decide (n = 1)) := by
  have : (2 : Int) ^ (min (1 : Int).toNat IntKind.i64.bits) = 2 := by decide
  rw [this, Int.fdiv_eq_ediv_of_nonneg _ (by omega), Bool.eq_iff_iff]
  simp
  omega

theorem not_any (l : List Val) (f : FuncId) (first : List AV) (p : Val → Bool) (h : List AObj) (hl : l.length < 2 ^ 60) (hp : ∀ s, s ∈ l → EvR E0 f (first.map AV.strip ++ [valv s]) h (boolv (p s))) :
    EvR E0 47 [.sl .unk (l.map valv), .fn (.func f) first []] h (i64 (idx p l 0)) := by
  refine ev_of (fn := Tryz.f47) (hs := []) Tryz.func47 c47 (by simp) fun hcl => ?_
  generalize hR : idx p l 0 = R
  simp only [ac47, aw20, List.take_succ_cons, List.take_zero, List.drop_zero, List.drop_succ_cons, List.length_map, ↓awD, awP, Nat.reduceLeDiff, Nat.reduceEqDiff, Nat.reduceAdd, Nat.zero_add, Int.cast_ofNat_Int, Int.reduceLT, Int.reduceLE, Int.reduceEq]
  refine LoopF.list l hl (γ := Unit) (fun i _ => ⟨[(0, .sl .unk (l.map valv)), (1, .fn (.func f) first []), (6, .sl .unk (l.map valv)), (7, i64 l.length), (8, i64 i)], h⟩) (fun i _ => idx p (l.drop i) i = R) () (by simpa using hR) (weak_of rfl (by simp [look])) ?_ ?_
  · rintro i a _ ha hv hi e1 w3
    rw [drop_get ha] at hv
    unfold idx at hv
    have hga := map_get valv l i a ha
    have hpa := hp a (List.mem_of_getElem? ha)
    simp only [valv_eq] at hpa
    simp only [e1, w3, aw20, List.take_succ_cons, List.take_zero, List.drop_zero, List.drop_succ_cons, List.length_map, ↓awD, awP, Nat.reduceLeDiff, Nat.reduceEqDiff, Nat.reduceAdd, Nat.zero_add, Int.cast_ofNat_Int, Int.reduceLT, Int.reduceLE, Int.reduceEq]
    repeat' (first | ((first | refine Need.mk (by first | (first | omega | (simp only [decide_eq_true_eq, decide_eq_false_iff_not, Bool.and_eq_true, Bool.not_eq_true', Bool.not_eq_false', List.length_map] at *; omega) | (simp; omega)) | (constructor <;> (first | omega | (simp only [decide_eq_true_eq, decide_eq_false_iff_not, Bool.and_eq_true, Bool.not_eq_true', Bool.not_eq_false', List.length_map] at *; omega) | (simp; omega)))) (Elem.recs hga (by first | (rw [valv_eq]; exact ⟨rfl, rfl⟩) | exact ⟨rfl, rfl⟩) ?_) | refine Elem.recs hga (by first | (rw [valv_eq]; exact ⟨rfl, rfl⟩) | exact ⟨rfl, rfl⟩) ?_); simp only [valv_eq, w3, aw21, aw20, List.take_succ_cons, List.take_zero, List.drop_zero, List.drop_succ_cons, List.length_map, ↓awD, awP, Nat.reduceLeDiff, Nat.reduceEqDiff, Nat.reduceAdd, Nat.zero_add, Int.cast_ofNat_Int, Int.reduceLT, Int.reduceLE, Int.reduceEq]) | ((first | refine EvF.ret ((by simpa only [List.append_nil] using hpa)) ?_ | refine EvRF.ret ((by simpa only [List.append_nil] using hpa)) ?_); simp only [w3, aw21, aw20, List.take_succ_cons, List.take_zero, List.drop_zero, List.drop_succ_cons, List.length_map, ↓awD, awP, Nat.reduceLeDiff, Nat.reduceEqDiff, Nat.reduceAdd, Nat.zero_add, Int.cast_ofNat_Int, Int.reduceLT, Int.reduceLE, Int.reduceEq]) | (refine BrF.mk (fun hb => ?_) (fun hb => ?_) <;> (try rw [hb]) <;> simp only [w3, aw21, aw20, List.take_succ_cons, List.take_zero, List.drop_zero, List.drop_succ_cons, List.length_map, ↓awD, awP, Nat.reduceLeDiff, Nat.reduceEqDiff, Nat.reduceAdd, Nat.zero_add, Int.cast_ofNat_Int, Int.reduceLT, Int.reduceLE, Int.reduceEq]))
    all_goals (simp only [*, if_true, if_false, Bool.false_eq_true] at hv)
    · subst hv; exact Fin.end hcl rfl (by first | rfl | exact (List.append_nil _).symm | (simp only [List.append_assoc]; rfl)) ⟨rfl, rfl⟩
    · exact ⟨(i + 1, ()), ⟨hi, hv⟩, by simp only; omega, weak_of (rfl) (by simp [look])⟩
  · rintro _ hv e1
    rw [drop_len] at hv
    unfold idx at hv
    subst hv
    simp only [e1, aw20, List.take_succ_cons, List.take_zero, List.drop_zero, List.drop_succ_cons, List.length_map, ↓awD, awP, Nat.reduceLeDiff, Nat.reduceEqDiff, Nat.reduceAdd, Nat.zero_add, Int.cast_ofNat_Int, Int.reduceLT, Int.reduceLE, Int.reduceEq]
    exact Fin.end hcl rfl (by first | rfl | exact (List.append_nil _).symm | (simp only [List.append_assoc]; rfl)) ⟨rfl, rfl⟩
theorem has_any (l : List Val) (f : FuncId) (first : List AV) (p : Val → Bool) (h : List AObj) (hl : l.length < 2 ^ 60) (hp : ∀ s, s ∈ l → EvR E0 f (first.map AV.strip ++ [valv s]) h (boolv (p s))) :
    EvR E0 30 [.sl .unk (l.map valv), .fn (.func f) first []] h (boolv (l.any p)) := by
  refine ev_of (fn := Tryz.f30) (hs := []) Tryz.func30 c30 (by simp) fun hcl => ?_
  simp only [ac30, ↓awD, awP, Nat.reduceLeDiff, Nat.reduceEqDiff, Nat.reduceAdd, Nat.zero_add, Int.cast_ofNat_Int, Int.reduceLT, Int.reduceLE, Int.reduceEq]
  refine EvF.ret (not_any l f first p h hl hp) ?_
  simp only [idx_any, ↓awD, awP, Nat.reduceLeDiff, Nat.reduceEqDiff, Nat.reduceAdd, Nat.zero_add, Int.cast_ofNat_Int, Int.reduceLT, Int.reduceLE, Int.reduceEq]
  exact Fin.same0 hcl rfl ⟨rfl, rfl⟩
theorem hasNot_of (d : List Dsc) (n : Int) (room : Int) (v : Val) (b : Bool) (hp : ∀ h, EvR E0 42 [rowv d n room, valv v] h (boolv b)) (h : List AObj) : EvR E0 26 [rowv d n room, valv v] h (boolv (!b)) := by
  refine ev_of (fn := Tryz.f26) (hs := []) Tryz.func26 c26 (by simp) fun hcl => ?_
  simp only [valv_eq] at hp
  simp only [ac26, valv_eq, aw20, List.take_succ_cons, List.take_zero, List.drop_zero, List.drop_succ_cons, List.length_map, ↓awD, awP, Nat.reduceLeDiff, Nat.reduceEqDiff, Nat.reduceAdd, Nat.zero_add, Int.cast_ofNat_Int, Int.reduceLT, Int.reduceLE, Int.reduceEq]
  repeat' ((first | refine EvF.ret (hp _) ?_ | refine EvRF.ret (hp _) ?_); simp only [aw21, aw21, aw20, List.take_succ_cons, List.take_zero, List.drop_zero, List.drop_succ_cons, List.length_map, ↓awD, awP, Nat.reduceLeDiff, Nat.reduceEqDiff, Nat.reduceAdd, Nat.zero_add, Int.cast_ofNat_Int, Int.reduceLT, Int.reduceLE, Int.reduceEq])
  all_goals (refine Fin.end hcl rfl (by first | rfl | exact (List.append_nil _).symm | (simp only [List.append_assoc]; rfl)) ⟨?_, rfl⟩; first | rfl | ((try simp only [dnat, decide_eq_true_eq, decide_eq_false_iff_not, List.length_eq_zero_iff, List.length_pos_iff] at *); first | (simp [*, rowv]; done) | (simp [*, rowv]; omega) | (clear hcl; simp [*, rowv] <;> grind) | (simp [*, rowv])))

set_option maxHeartbeats 8000000 in
theorem has_step (d : List Dsc) (n : Nat) (r : Dsc) (room : Nat) (hroom : room ≤ 40) (v : Val) (B : Int → Val → Bool) (hr : d[n]? = some r) (hm : BD (2 ^ 30) r) (hv : mxV v ≤ 2 ^ 48)
    (hB : ∀ k, room = k + 1 → ∀ t x, ((∃ f, f ∈ r.fields ∧ f.t = t) ∨ t = r.elem) → x ∈ v.l → ∀ h, EvR E0 42 [rowv d t k, valv x] h (boolv (B t x))) (h : List AObj) :
    EvR E0 42 [rowv d n room, valv v] h (boolv (hasF B (decide (room = 0)) r v)) := by
  refine ev_of (fn := Tryz.f42) (hs := []) Tryz.func42 c42 (by simp) fun hcl => ?_
  have hV := mxV_le v
  have l3 := mxVs_len v.l
  have l4 := hm.1
  have l5 := hm.2.1
  have l6 := hm.2.2.1
  have l7 := hm.2.2.2.1
  have l8 := mxB_len r.names
  have l9 := mxB_len r.more
  have ho := fun h => own_ev d n r (room : Int) hr h
  have hpt := fun h => parted_ev r.kind h
  have hba := fun h => bare_ev v h
  have hsp := fun h => has_ev r.set v.n (by omega) h
  have hc1 := fun h => strs_has r.names v.s h (by omega)
  have hc2 := fun h => strs_has r.more v.s h (by omega)
  have ht1 := fun h => text_ev v.s ⟨#[48, 49]⟩ (by omega) (by decide) h
  have ht2 := fun h => text_ev v.s r.frm (by omega) (by omega) h
  have hz1 := fun h => sized_ev d n r (room : Int) hr v.s.size (by omega) h
  have hz2 := fun h => sized_ev d n r (room : Int) hr v.l.length (by omega) h
  have d0 : decide ((room : Int) = 0) = decide (room = 0) := by rw [decide_eq_decide]; omega
  simp only [valv_eq] at hba
  simp only [dscv_eq] at ho
  simp only [ac42, valv_eq, d0, aw20, List.take_succ_cons, List.take_zero, List.drop_zero, List.drop_succ_cons, List.length_map, ↓awD, awP, Nat.reduceLeDiff, Nat.reduceEqDiff, Nat.reduceAdd, Nat.zero_add, Int.cast_ofNat_Int, Int.reduceLT, Int.reduceLE, Int.reduceEq]
  repeat' ((first | refine EvF.ret (ho _) ?_ | refine EvRF.ret (ho _) ?_); simp only [d0, aw21, aw20, List.take_succ_cons, List.take_zero, List.drop_zero, List.drop_succ_cons, List.length_map, ↓awD, awP, Nat.reduceLeDiff, Nat.reduceEqDiff, Nat.reduceAdd, Nat.zero_add, Int.cast_ofNat_Int, Int.reduceLT, Int.reduceLE, Int.reduceEq])
  generalize hHd : h ++ [AObj.cells [dscl d, i64 n, i64 room]] ++ [AObj.cells [i64 v.kind, i64 v.n, str v.s, strl v.names, vall v.l]] ++ [AObj.cells [i64 r.kind, boolv r.ext, rgl r.set, i64 r.lo, i64 r.hi, str r.frm, strl r.names, strl r.more, fldl r.parts, fldl r.adds, intl r.order, i64 r.elem]] = H
  have g0 : H[h.length]? = some (AObj.cells [dscl d, i64 n, i64 room]) := by rw [← hHd]; exact app_get (geta _ _ _) _
  have g1 : H[(h ++ [AObj.cells [dscl d, i64 n, i64 room]]).length]? = some (AObj.cells [i64 v.kind, i64 v.n, str v.s, strl v.names, vall v.l]) := by rw [← hHd]; exact geta _ _ _
  have g2 : H[(h ++ [AObj.cells [dscl d, i64 n, i64 room]] ++ [AObj.cells [i64 v.kind, i64 v.n, str v.s, strl v.names, vall v.l]]).length]? = some (AObj.cells [i64 r.kind, boolv r.ext, rgl r.set, i64 r.lo, i64 r.hi, str r.frm, strl r.names, strl r.more, fldl r.parts, fldl r.adds, intl r.order, i64 r.elem]) := by rw [← hHd]; simp
  generalize (h ++ [AObj.cells [dscl d, i64 n, i64 room]] ++ [AObj.cells [i64 v.kind, i64 v.n, str v.s, strl v.names, vall v.l]]).length = i2 at g2 ⊢
  generalize (h ++ [AObj.cells [dscl d, i64 n, i64 room]]).length = i1 at g1 ⊢
  rcases room with _ | k
  · have z0 : decide ((0 : Nat) = 0) = true := rfl
    cases hpr : parted r.kind
    · have k8 : decide (r.kind = 8) = false := by simp only [parted, Bool.or_eq_false_iff] at hpr; exact hpr.1.1
      have k9 : decide (r.kind = 9) = false := by simp only [parted, Bool.or_eq_false_iff] at hpr; exact hpr.1.2
      have k10 : decide (r.kind = 10) = false := by simp only [parted, Bool.or_eq_false_iff] at hpr; exact hpr.2
      simp only [z0, g0, g1, g2, aw20, List.take_succ_cons, List.take_zero, List.drop_zero, List.drop_succ_cons, List.length_map, ↓awD, awP, Nat.reduceLeDiff, Nat.reduceEqDiff, Nat.reduceAdd, Nat.zero_add, Int.cast_ofNat_Int, Int.reduceLT, Int.reduceLE, Int.reduceEq]
      repeat' (first | ((first | refine EvF.ret (hpt _) ?_ | refine EvRF.ret (hpt _) ?_); simp only [hpr, g0, g1, g2, k8, k9, k10, aw21, aw20, List.take_succ_cons, List.take_zero, List.drop_zero, List.drop_succ_cons, List.length_map, ↓awD, awP, Nat.reduceLeDiff, Nat.reduceEqDiff, Nat.reduceAdd, Nat.zero_add, Int.cast_ofNat_Int, Int.reduceLT, Int.reduceLE, Int.reduceEq]) | ((first | refine EvF.ret (hba _) ?_ | refine EvRF.ret (hba _) ?_); simp only [hpr, g0, g1, g2, k8, k9, k10, aw21, aw20, List.take_succ_cons, List.take_zero, List.drop_zero, List.drop_succ_cons, List.length_map, ↓awD, awP, Nat.reduceLeDiff, Nat.reduceEqDiff, Nat.reduceAdd, Nat.zero_add, Int.cast_ofNat_Int, Int.reduceLT, Int.reduceLE, Int.reduceEq]) | ((first | refine EvF.ret (hsp _) ?_ | refine EvRF.ret (hsp _) ?_); simp only [hpr, g0, g1, g2, k8, k9, k10, aw21, aw20, List.take_succ_cons, List.take_zero, List.drop_zero, List.drop_succ_cons, List.length_map, ↓awD, awP, Nat.reduceLeDiff, Nat.reduceEqDiff, Nat.reduceAdd, Nat.zero_add, Int.cast_ofNat_Int, Int.reduceLT, Int.reduceLE, Int.reduceEq]) | ((first | refine EvF.ret (hc1 _) ?_ | refine EvRF.ret (hc1 _) ?_); simp only [hpr, g0, g1, g2, k8, k9, k10, aw21, aw20, List.take_succ_cons, List.take_zero, List.drop_zero, List.drop_succ_cons, List.length_map, ↓awD, awP, Nat.reduceLeDiff, Nat.reduceEqDiff, Nat.reduceAdd, Nat.zero_add, Int.cast_ofNat_Int, Int.reduceLT, Int.reduceLE, Int.reduceEq]) | ((first | refine EvF.ret (hc2 _) ?_ | refine EvRF.ret (hc2 _) ?_); simp only [hpr, g0, g1, g2, k8, k9, k10, aw21, aw20, List.take_succ_cons, List.take_zero, List.drop_zero, List.drop_succ_cons, List.length_map, ↓awD, awP, Nat.reduceLeDiff, Nat.reduceEqDiff, Nat.reduceAdd, Nat.zero_add, Int.cast_ofNat_Int, Int.reduceLT, Int.reduceLE, Int.reduceEq]) | ((first | refine EvF.ret (ht1 _) ?_ | refine EvRF.ret (ht1 _) ?_); simp only [hpr, g0, g1, g2, k8, k9, k10, aw21, aw20, List.take_succ_cons, List.take_zero, List.drop_zero, List.drop_succ_cons, List.length_map, ↓awD, awP, Nat.reduceLeDiff, Nat.reduceEqDiff, Nat.reduceAdd, Nat.zero_add, Int.cast_ofNat_Int, Int.reduceLT, Int.reduceLE, Int.reduceEq]) | ((first | refine EvF.ret (ht2 _) ?_ | refine EvRF.ret (ht2 _) ?_); simp only [hpr, g0, g1, g2, k8, k9, k10, aw21, aw20, List.take_succ_cons, List.take_zero, List.drop_zero, List.drop_succ_cons, List.length_map, ↓awD, awP, Nat.reduceLeDiff, Nat.reduceEqDiff, Nat.reduceAdd, Nat.zero_add, Int.cast_ofNat_Int, Int.reduceLT, Int.reduceLE, Int.reduceEq]) | ((first | refine EvF.ret (hz1 _) ?_ | refine EvRF.ret (hz1 _) ?_); simp only [hpr, g0, g1, g2, k8, k9, k10, aw21, aw20, List.take_succ_cons, List.take_zero, List.drop_zero, List.drop_succ_cons, List.length_map, ↓awD, awP, Nat.reduceLeDiff, Nat.reduceEqDiff, Nat.reduceAdd, Nat.zero_add, Int.cast_ofNat_Int, Int.reduceLT, Int.reduceLE, Int.reduceEq]) | ((first | refine EvF.ret (hz2 _) ?_ | refine EvRF.ret (hz2 _) ?_); simp only [hpr, g0, g1, g2, k8, k9, k10, aw21, aw20, List.take_succ_cons, List.take_zero, List.drop_zero, List.drop_succ_cons, List.length_map, ↓awD, awP, Nat.reduceLeDiff, Nat.reduceEqDiff, Nat.reduceAdd, Nat.zero_add, Int.cast_ofNat_Int, Int.reduceLT, Int.reduceLE, Int.reduceEq]) | (refine BrF.mk (fun hb => ?_) (fun hb => ?_) <;> (try rw [hb]) <;> simp only [hpr, g0, g1, g2, k8, k9, k10, aw21, aw20, List.take_succ_cons, List.take_zero, List.drop_zero, List.drop_succ_cons, List.length_map, ↓awD, awP, Nat.reduceLeDiff, Nat.reduceEqDiff, Nat.reduceAdd, Nat.zero_add, Int.cast_ofNat_Int, Int.reduceLT, Int.reduceLE, Int.reduceEq]))
      all_goals (try rw [shr1])
      all_goals (clear hB ho hba hsp hc1 hc2 ht1 ht2 hz1 hz2 hpt; refine Fin.end hcl rfl (by rw [← hHd]; simp only [List.append_assoc]; rfl) ⟨?_, rfl⟩; clear hHd; simp only [hasF, kindF, *, cond_true, cond_false, Bool.not_true, Bool.not_false, Bool.and_true, Bool.true_and, Bool.and_false, Bool.false_and, Bool.or_true, Bool.true_or, Bool.or_false, Bool.false_or, decide_true, decide_false])
    · simp only [z0, g0, g1, g2, aw20, List.take_succ_cons, List.take_zero, List.drop_zero, List.drop_succ_cons, List.length_map, ↓awD, awP, Nat.reduceLeDiff, Nat.reduceEqDiff, Nat.reduceAdd, Nat.zero_add, Int.cast_ofNat_Int, Int.reduceLT, Int.reduceLE, Int.reduceEq]
      repeat' (first | ((first | refine EvF.ret (hpt _) ?_ | refine EvRF.ret (hpt _) ?_); simp only [hpr, g0, g1, g2, aw21, aw20, List.take_succ_cons, List.take_zero, List.drop_zero, List.drop_succ_cons, List.length_map, ↓awD, awP, Nat.reduceLeDiff, Nat.reduceEqDiff, Nat.reduceAdd, Nat.zero_add, Int.cast_ofNat_Int, Int.reduceLT, Int.reduceLE, Int.reduceEq]) | (refine BrF.mk (fun hb => ?_) (fun hb => ?_) <;> (try rw [hb]) <;> simp only [hpr, g0, g1, g2, aw21, aw20, List.take_succ_cons, List.take_zero, List.drop_zero, List.drop_succ_cons, List.length_map, ↓awD, awP, Nat.reduceLeDiff, Nat.reduceEqDiff, Nat.reduceAdd, Nat.zero_add, Int.cast_ofNat_Int, Int.reduceLT, Int.reduceLE, Int.reduceEq]))
      all_goals (try rw [shr1])
      all_goals (clear hB ho hba hsp hc1 hc2 ht1 ht2 hz1 hz2 hpt; refine Fin.end hcl rfl (by rw [← hHd]; simp only [List.append_assoc]; rfl) ⟨?_, rfl⟩; clear hHd; simp only [hasF, kindF, *, cond_true, cond_false, Bool.not_true, Bool.not_false, Bool.and_true, Bool.true_and, Bool.and_false, Bool.false_and, Bool.or_true, Bool.true_or, Bool.or_false, Bool.false_or, decide_true, decide_false])
  · have z0 : decide (k + 1 = 0) = false := rfl
    have hsq := fun h => seq_ev d n r k (by omega) v B hr hm hv (fun f hf x hx h => hB k rfl f.t x (.inl ⟨f, hf, rfl⟩) hx h) h
    have hch := fun h => choice_ev d n r k (by omega) v B hr hm hv (fun f hf x hx h => hB k rfl f.t x (.inl ⟨f, hf, rfl⟩) hx h) h
    have hbl := fun m h => below_ev d n ((k + 1 : Nat) : Int) m (by constructor <;> omega) h
    rw [show ((k + 1 : Nat) : Int) - 1 = k by omega] at hbl
    have han := fun h => has_any v.l 26 [rowv d r.elem k] (fun x => !B r.elem x) h (by omega) fun x hx => hasNot_of d r.elem k x (B r.elem x) (fun h => hB k rfl r.elem x (.inr rfl) hx h) h
    simp only [valv_eq] at hsq hch
    simp only [z0, g0, g1, g2, aw20, List.take_succ_cons, List.take_zero, List.drop_zero, List.drop_succ_cons, List.length_map, ↓awD, awP, Nat.reduceLeDiff, Nat.reduceEqDiff, Nat.reduceAdd, Nat.zero_add, Int.cast_ofNat_Int, Int.reduceLT, Int.reduceLE, Int.reduceEq]
    repeat' (first | ((first | refine EvF.ret (hba _) ?_ | refine EvRF.ret (hba _) ?_); simp only [g0, g1, g2, aw21, aw20, List.take_succ_cons, List.take_zero, List.drop_zero, List.drop_succ_cons, List.length_map, ↓awD, awP, Nat.reduceLeDiff, Nat.reduceEqDiff, Nat.reduceAdd, Nat.zero_add, Int.cast_ofNat_Int, Int.reduceLT, Int.reduceLE, Int.reduceEq]) | ((first | refine EvF.ret (hsp _) ?_ | refine EvRF.ret (hsp _) ?_); simp only [g0, g1, g2, aw21, aw20, List.take_succ_cons, List.take_zero, List.drop_zero, List.drop_succ_cons, List.length_map, ↓awD, awP, Nat.reduceLeDiff, Nat.reduceEqDiff, Nat.reduceAdd, Nat.zero_add, Int.cast_ofNat_Int, Int.reduceLT, Int.reduceLE, Int.reduceEq]) | ((first | refine EvF.ret (hc1 _) ?_ | refine EvRF.ret (hc1 _) ?_); simp only [g0, g1, g2, aw21, aw20, List.take_succ_cons, List.take_zero, List.drop_zero, List.drop_succ_cons, List.length_map, ↓awD, awP, Nat.reduceLeDiff, Nat.reduceEqDiff, Nat.reduceAdd, Nat.zero_add, Int.cast_ofNat_Int, Int.reduceLT, Int.reduceLE, Int.reduceEq]) | ((first | refine EvF.ret (hc2 _) ?_ | refine EvRF.ret (hc2 _) ?_); simp only [g0, g1, g2, aw21, aw20, List.take_succ_cons, List.take_zero, List.drop_zero, List.drop_succ_cons, List.length_map, ↓awD, awP, Nat.reduceLeDiff, Nat.reduceEqDiff, Nat.reduceAdd, Nat.zero_add, Int.cast_ofNat_Int, Int.reduceLT, Int.reduceLE, Int.reduceEq]) | ((first | refine EvF.ret (ht1 _) ?_ | refine EvRF.ret (ht1 _) ?_); simp only [g0, g1, g2, aw21, aw20, List.take_succ_cons, List.take_zero, List.drop_zero, List.drop_succ_cons, List.length_map, ↓awD, awP, Nat.reduceLeDiff, Nat.reduceEqDiff, Nat.reduceAdd, Nat.zero_add, Int.cast_ofNat_Int, Int.reduceLT, Int.reduceLE, Int.reduceEq]) | ((first | refine EvF.ret (ht2 _) ?_ | refine EvRF.ret (ht2 _) ?_); simp only [g0, g1, g2, aw21, aw20, List.take_succ_cons, List.take_zero, List.drop_zero, List.drop_succ_cons, List.length_map, ↓awD, awP, Nat.reduceLeDiff, Nat.reduceEqDiff, Nat.reduceAdd, Nat.zero_add, Int.cast_ofNat_Int, Int.reduceLT, Int.reduceLE, Int.reduceEq]) | ((first | refine EvF.ret (hz1 _) ?_ | refine EvRF.ret (hz1 _) ?_); simp only [g0, g1, g2, aw21, aw20, List.take_succ_cons, List.take_zero, List.drop_zero, List.drop_succ_cons, List.length_map, ↓awD, awP, Nat.reduceLeDiff, Nat.reduceEqDiff, Nat.reduceAdd, Nat.zero_add, Int.cast_ofNat_Int, Int.reduceLT, Int.reduceLE, Int.reduceEq]) | ((first | refine EvF.ret (hz2 _) ?_ | refine EvRF.ret (hz2 _) ?_); simp only [g0, g1, g2, aw21, aw20, List.take_succ_cons, List.take_zero, List.drop_zero, List.drop_succ_cons, List.length_map, ↓awD, awP, Nat.reduceLeDiff, Nat.reduceEqDiff, Nat.reduceAdd, Nat.zero_add, Int.cast_ofNat_Int, Int.reduceLT, Int.reduceLE, Int.reduceEq]) | ((first | refine EvF.ret (hsq _) ?_ | refine EvRF.ret (hsq _) ?_); simp only [g0, g1, g2, aw21, aw20, List.take_succ_cons, List.take_zero, List.drop_zero, List.drop_succ_cons, List.length_map, ↓awD, awP, Nat.reduceLeDiff, Nat.reduceEqDiff, Nat.reduceAdd, Nat.zero_add, Int.cast_ofNat_Int, Int.reduceLT, Int.reduceLE, Int.reduceEq]) | ((first | refine EvF.ret (hch _) ?_ | refine EvRF.ret (hch _) ?_); simp only [g0, g1, g2, aw21, aw20, List.take_succ_cons, List.take_zero, List.drop_zero, List.drop_succ_cons, List.length_map, ↓awD, awP, Nat.reduceLeDiff, Nat.reduceEqDiff, Nat.reduceAdd, Nat.zero_add, Int.cast_ofNat_Int, Int.reduceLT, Int.reduceLE, Int.reduceEq]) | ((first | refine EvF.ret (hbl _ _) ?_ | refine EvRF.ret (hbl _ _) ?_); simp only [g0, g1, g2, aw21, aw20, List.take_succ_cons, List.take_zero, List.drop_zero, List.drop_succ_cons, List.length_map, ↓awD, awP, Nat.reduceLeDiff, Nat.reduceEqDiff, Nat.reduceAdd, Nat.zero_add, Int.cast_ofNat_Int, Int.reduceLT, Int.reduceLE, Int.reduceEq]) | ((first | refine EvF.ret (han _) ?_ | refine EvRF.ret (han _) ?_); simp only [g0, g1, g2, aw21, aw20, List.take_succ_cons, List.take_zero, List.drop_zero, List.drop_succ_cons, List.length_map, ↓awD, awP, Nat.reduceLeDiff, Nat.reduceEqDiff, Nat.reduceAdd, Nat.zero_add, Int.cast_ofNat_Int, Int.reduceLT, Int.reduceLE, Int.reduceEq]) | (refine BrF.mk (fun hb => ?_) (fun hb => ?_) <;> (try rw [hb]) <;> simp only [g0, g1, g2, aw21, aw20, List.take_succ_cons, List.take_zero, List.drop_zero, List.drop_succ_cons, List.length_map, ↓awD, awP, Nat.reduceLeDiff, Nat.reduceEqDiff, Nat.reduceAdd, Nat.zero_add, Int.cast_ofNat_Int, Int.reduceLT, Int.reduceLE, Int.reduceEq]))
    all_goals (try rw [shr1])
    all_goals (clear hB ho hba hsp hc1 hc2 ht1 ht2 hz1 hz2 hpt hsq hch hbl han; refine Fin.end hcl rfl (by rw [← hHd]; simp only [List.append_assoc]; rfl) ⟨?_, rfl⟩; clear hHd; simp only [hasF, kindF, *, cond_true, cond_false, Bool.not_true, Bool.not_false, Bool.and_true, Bool.true_and, Bool.and_false, Bool.false_and, Bool.or_true, Bool.true_or, Bool.or_false, Bool.false_or, decide_true, decide_false])
end Go.Abs.Fr

namespace Go.Abs.Fr
open Go Go.Abs Go.Proofs
set_option linter.unusedSimpArgs false
set_option maxRecDepth 100000

/-- (spandrel/member.row).noDefault -/
def ac31 : ACode := (.seq (.region [⟨(some 2), (.box (.tmp 0)), none⟩, ⟨(some 3), (.box (.tmp 1)), none⟩, ⟨(some 4), (.move (.const (.bool false))), none⟩]) (.seq (.seq (.region [⟨(some 5), (.fieldAddr 0 (.tmp 3)), none⟩, ⟨(some 6), (.load none (.tmp 5)), none⟩]) (.block 0 (.seq (.seq (.region [⟨(some 8), (.bin .eql (.tmp 6) (.const (.int .i64 1))), none⟩, ⟨(some 7), (.move (.tmp 8)), none⟩]) (.cond (.tmp 7) .skip (.seq (.region [⟨(some 9), (.bin .eql (.tmp 6) (.const (.int .i64 2))), none⟩, ⟨(some 7), (.move (.tmp 9)), none⟩]) (.cond (.tmp 7) .skip (.seq (.region [⟨(some 10), (.bin .eql (.tmp 6) (.const (.int .i64 3))), none⟩, ⟨(some 7), (.move (.tmp 10)), none⟩]) (.cond (.tmp 7) .skip (.region [⟨(some 11), (.bin .eql (.tmp 6) (.const (.int .i64 7))), none⟩, ⟨(some 7), (.move (.tmp 11)), none⟩]))))))) (.cond (.tmp 7) (.seq (.region [⟨(some 12), (.load (some 3) (.tmp 2)), none⟩, ⟨(some 13), (.load (some 5) (.tmp 3)), none⟩, ⟨(some 14), (.call (.func 42) [((.tmp 12), false), ((.tmp 13), false)]), none⟩, ⟨(some 15), (.un .not (.tmp 14)), none⟩, ⟨(some 4), (.move (.tmp 15)), none⟩]) .ret) .skip)))) (.seq (.region [⟨(some 4), (.move (.const (.bool true))), none⟩]) .ret)))
theorem c31 : cfn E0.P [] Tryz.f31 = some (ac31, [(.tmp 4)], 16) := by kernel_rfl

def dz : Dsc := ⟨0, false, [], 0, 0, ⟨#[]⟩, [], [], [], [], [], 0, by unfold InR; decide, by unfold InR; decide, by unfold InR; decide, by unfold InR; decide, by intro x h; cases h⟩
def rowAt (d : List Dsc) (t : Int) : Dsc := d.getD t.toNat dz
def hasV (d : List Dsc) : Nat → Int → Val → Bool
  | 0, t, v => hasF (fun _ _ => true) true (rowAt d t) v
  | k + 1, t, v => hasF (hasV d k) false (rowAt d t) v
/-- A row's number. -/
def inT (d : List Dsc) (t : Int) : Prop := 0 ≤ t ∧ t < d.length
/-- All that rows name are rows. -/
def RowsOk (d : List Dsc) : Prop := ∀ r, r ∈ d → (∀ f, f ∈ r.fields → inT d f.t) ∧ inT d r.elem
theorem rowAt_get {d : List Dsc} {t : Int} (h : inT d t) : d[t.toNat]? = some (rowAt d t) := by
  have hl : t.toNat < d.length := by have := h.1; have := h.2; omega
  simp [rowAt, List.getD, List.getElem?_eq_getElem hl]
theorem inT_nat {d : List Dsc} {t : Int} (h : inT d t) : ((t.toNat : Nat) : Int) = t := Int.toNat_of_nonneg h.1
theorem hasV_mem {v x : Val} (h : x ∈ v.l) : mxV x ≤ mxV v := by
  have := mxV_le v; have := mxVs_mem h; omega

theorem has_all (d : List Dsc) (hd : ∀ r, r ∈ d → BD (2 ^ 30) r) (ho : RowsOk d) : ∀ (room : Nat), room ≤ 40 → ∀ (t : Int) (v : Val), inT d t → mxV v ≤ 2 ^ 48 → ∀ h, EvR E0 42 [rowv d t room, valv v] h (boolv (hasV d room t v)) := by
  intro room
  induction room with
  | zero =>
    intro _ t v ht hv h
    have hr := rowAt_get ht
    have := has_step d t.toNat (rowAt d t) 0 (by omega) v (fun _ _ => true) hr (hd _ (List.mem_of_getElem? hr)) hv (fun k hk => by omega) h
    rw [inT_nat ht] at this
    exact this
  | succ k ih =>
    intro hk t v ht hv h
    have hr := rowAt_get ht
    have hm := List.mem_of_getElem? hr
    have := has_step d t.toNat (rowAt d t) (k + 1) hk v (hasV d k) hr (hd _ hm) hv (fun k' hk' t' x ht' hx h => by
      obtain rfl : k = k' := by omega
      refine ih (by omega) t' x ?_ (by have := hasV_mem hx; omega) h
      rcases ht' with ⟨f, hf, rfl⟩ | rfl
      · exact (ho _ hm).1 f hf
      · exact (ho _ hm).2) h
    rw [inT_nat ht] at this
    exact this

/-- A default's kind. -/
def simpK (k : Int) : Bool := decide (k = 1) || (decide (k = 2) || (decide (k = 3) || decide (k = 7)))
theorem noDefault_ev (d : List Dsc) (hd : ∀ r, r ∈ d → BD (2 ^ 30) r) (ho : RowsOk d) (t : Int) (v : Val) (ht : inT d t) (hv : mxV v ≤ 2 ^ 48) (h : List AObj) :
    EvR E0 31 [rowv d t ((40 : Nat) : Int), valv v] h (boolv (!(simpK v.kind && hasV d 40 t v))) := by
  refine ev_of (fn := Tryz.f31) (hs := []) Tryz.func31 c31 (by simp) fun hcl => ?_
  have hh := fun h => has_all d hd ho 40 (by omega) t v ht hv h
  simp only [valv_eq] at hh
  simp only [ac31, valv_eq, aw20, List.take_succ_cons, List.take_zero, List.drop_zero, List.drop_succ_cons, List.length_map, ↓awD, awP, Nat.reduceLeDiff, Nat.reduceEqDiff, Nat.reduceAdd, Nat.zero_add, Int.cast_ofNat_Int, Int.reduceLT, Int.reduceLE, Int.reduceEq]
  repeat' (first | ((first | refine EvF.ret (hh _) ?_ | refine EvRF.ret (hh _) ?_); simp only [aw21, aw21, aw20, List.take_succ_cons, List.take_zero, List.drop_zero, List.drop_succ_cons, List.length_map, ↓awD, awP, Nat.reduceLeDiff, Nat.reduceEqDiff, Nat.reduceAdd, Nat.zero_add, Int.cast_ofNat_Int, Int.reduceLT, Int.reduceLE, Int.reduceEq]) | (refine BrF.mk (fun hb => ?_) (fun hb => ?_) <;> (try rw [hb]) <;> simp only [aw21, aw21, aw20, List.take_succ_cons, List.take_zero, List.drop_zero, List.drop_succ_cons, List.length_map, ↓awD, awP, Nat.reduceLeDiff, Nat.reduceEqDiff, Nat.reduceAdd, Nat.zero_add, Int.cast_ofNat_Int, Int.reduceLT, Int.reduceLE, Int.reduceEq]))
  all_goals (refine Fin.end hcl rfl (by first | rfl | exact (List.append_nil _).symm | (simp only [List.append_assoc]; rfl)) ⟨?_, rfl⟩; first | rfl | ((try simp only [dnat, decide_eq_true_eq, decide_eq_false_iff_not, List.length_eq_zero_iff, List.length_pos_iff] at *); first | (simp [*, simpK]; done) | (simp [*, simpK]; omega) | (clear hcl; simp [*, simpK] <;> grind) | (simp [*, simpK])))
end Go.Abs.Fr

namespace Go.Abs.Fr
open Go Go.Abs Go.Proofs
set_option linter.unusedSimpArgs false
set_option maxRecDepth 100000

/-- spandrel/table.sizes -/
def ac75 : ACode := (.seq (.region [⟨(some 2), (.move (.const (.bool false))), none⟩]) (.seq (.region [⟨(some 3), (.move (.tmp 0)), none⟩, ⟨(some 4), (.bin .eql (.tmp 3) (.const (.int .i64 2))), none⟩, ⟨(some 5), (.move (.tmp 4)), none⟩, ⟨(some 6), (.move (.tmp 0)), (some (5, false))⟩, ⟨(some 7), (.bin .eql (.tmp 6) (.const (.int .i64 5))), (some (5, false))⟩, ⟨(some 8), (.pick (.tmp 5) (.const (.bool true)) (.tmp 7)), none⟩, ⟨(some 9), (.move (.tmp 8)), none⟩, ⟨(some 10), (.move (.tmp 0)), (some (9, false))⟩, ⟨(some 11), (.bin .eql (.tmp 10) (.const (.int .i64 6))), (some (9, false))⟩, ⟨(some 12), (.pick (.tmp 9) (.const (.bool true)) (.tmp 11)), none⟩, ⟨(some 13), (.move (.tmp 12)), none⟩, ⟨(some 14), (.move (.tmp 0)), (some (13, false))⟩, ⟨(some 15), (.bin .eql (.tmp 14) (.const (.int .i64 7))), (some (13, false))⟩, ⟨(some 16), (.pick (.tmp 13) (.const (.bool true)) (.tmp 15)), none⟩, ⟨(some 17), (.move (.tmp 16)), none⟩, ⟨(some 18), (.move (.tmp 0)), (some (17, false))⟩, ⟨(some 19), (.bin .eql (.tmp 18) (.const (.int .i64 9))), (some (17, false))⟩, ⟨(some 20), (.pick (.tmp 17) (.const (.bool true)) (.tmp 19)), none⟩, ⟨(some 2), (.move (.tmp 20)), none⟩]) .ret))
theorem c75 : cfn E0.P [] Tryz.f75 = some (ac75, [(.tmp 2)], 21) := by kernel_rfl
/-- spandrel/table.once -/
def ac78 : ACode := (.seq (.region [⟨(some 2), (.move (.const (.bool false))), none⟩]) (.seq (.region [⟨(some 6), (.makeMap .str), none⟩, ⟨(some 3), (.move (.tmp 6)), none⟩]) (.seq (.seq (.region [⟨(some 7), (.move (.tmp 0)), none⟩, ⟨(some 8), (.len false (.tmp 7)), none⟩, ⟨(some 9), (.move (.const (.int .i64 0))), none⟩]) (.block 0 (.loop (.seq (.region [⟨(some 10), (.bin .lss (.tmp 9) (.tmp 8)), none⟩]) (.seq (.cond (.tmp 10) .skip (.exit 0)) (.seq (.block 1 (.seq (.region [⟨(some 11), (.indexAddr 1 (.tmp 7) (.tmp 9)), none⟩, ⟨(some 12), (.load none (.tmp 11)), none⟩, ⟨(some 5), (.move (.tmp 12)), none⟩]) (.seq (.seq (.region [⟨(some 13), (.move (.tmp 3)), none⟩, ⟨(some 14), (.move (.tmp 5)), none⟩, ⟨(some 15), (.lookup false .str (.lit (.bool false)) (.tmp 13) (.tmp 14)), none⟩]) (.cond (.tmp 15) (.seq (.region [⟨(some 2), (.move (.const (.bool false))), none⟩]) .ret) .skip)) (.region [⟨(some 16), (.move (.tmp 3)), none⟩, ⟨(some 17), (.move (.tmp 5)), none⟩, ⟨none, (.mapSet .str (.tmp 16) (.tmp 17) (.const (.bool true))), none⟩])))) (.region [⟨(some 18), (.bin .add (.tmp 9) (.const (.int .i64 1))), none⟩, ⟨(some 9), (.move (.tmp 18)), none⟩]))))))) (.seq (.region [⟨(some 2), (.move (.const (.bool true))), none⟩]) .ret))))
theorem c78 : cfn E0.P [] Tryz.f78 = some (ac78, [(.tmp 2)], 19) := by kernel_rfl

def hasS (m : List ByteArray) (s : ByteArray) : Bool := m.any fun x => decide (s = x)
theorem hasS_iff {m : List ByteArray} {s : ByteArray} : hasS m s = true ↔ s ∈ m := by simp [hasS]
/-- Each stands there once. -/
def onceW : List ByteArray → List ByteArray → Bool
  | _, [] => true
  | m, s :: l => !hasS m s && onceW (m ++ [s]) l
def onceT (l : List ByteArray) : Bool := onceW [] l
def ent (s : ByteArray) : Value × AV := (.string s, .lit (.bool true))
theorem mix_ent (s : ByteArray) : ∀ (m : List ByteArray), (s ∈ m → ∃ i, mix (m.map ent) (.string s) = some i ∧ i < m.length) ∧ (s ∉ m → mix (m.map ent) (.string s) = none)
  | [] => ⟨fun h => by simp at h, fun _ => rfl⟩
  | x :: m => by
    obtain ⟨h1, h2⟩ := mix_ent s m
    by_cases hx : s = x
    · subst hx
      exact ⟨fun _ => ⟨0, by simp [mix, ent, sameKey], by simp⟩, fun h => absurd (List.mem_cons_self) h⟩
    · have hk : sameKey (.string s) (ent x).1 = false := by simp [ent, sameKey, hx]
      refine ⟨fun h => ?_, fun h => ?_⟩
      · obtain ⟨i, h3, h4⟩ := h1 (by simpa [hx] using h)
        exact ⟨i + 1, by simp [mix, hk, h3], by simpa using h4⟩
      · simp [mix, hk, h2 (by simpa [hx] using h)]
theorem mget_ent (s : ByteArray) (m : List ByteArray) : mget (m.map ent) (.string s) = if hasS m s = true then some (AV.lit (.bool true)) else none := by
  unfold mget
  by_cases h : s ∈ m
  · obtain ⟨i, h1, h2⟩ := (mix_ent s m).1 h
    rw [h1, if_pos (hasS_iff.2 h)]
    simp [List.getElem?_map, List.getElem?_eq_getElem h2, ent]
  · rw [(mix_ent s m).2 h, if_neg (fun hh => h (hasS_iff.1 hh))]
theorem mput_ent (s : ByteArray) (m : List ByteArray) (h : s ∉ m) : mput (m.map ent) (.string s) (.lit (.bool true)) = (m ++ [s]).map ent := by
  unfold mput
  rw [(mix_ent s m).2 h]
  simp [ent]

theorem once_ev (l : List ByteArray) (hl : l.length < 2 ^ 60) (h : List AObj) : EvR E0 78 [strl l] h (boolv (onceT l)) := by
  refine ev_of (fn := Tryz.f78) (hs := []) Tryz.func78 c78 (by simp) fun hcl => ?_
  unfold onceT
  generalize hR : onceW [] l = R
  simp only [ac78, aw20, List.take_succ_cons, List.take_zero, List.drop_zero, List.drop_succ_cons, List.length_map, ↓awD, awP, Nat.reduceLeDiff, Nat.reduceEqDiff, Nat.reduceAdd, Nat.zero_add, Int.cast_ofNat_Int, Int.reduceLT, Int.reduceLE, Int.reduceEq]
  refine LoopF.list l hl (γ := Unit) (fun i _ => ⟨[(3, .mp h.length), (7, strl l), (8, i64 l.length), (9, i64 i)], h ++ [AObj.map KK.str ((l.take i).map ent)]⟩) (fun i _ => onceW (l.take i) (l.drop i) = R) () (by simpa using hR) (weak_of (by simp) (by simp [look])) ?_ ?_
  · rintro i a _ ha hv hi e1 w3
    rw [drop_get ha] at hv
    unfold onceW at hv
    have hga := map_get str l i a ha
    have htk : l.take (i + 1) = l.take i ++ [a] := by rw [List.take_add_one, ha]; rfl
    simp only [e1, w3, aw20, List.take_succ_cons, List.take_zero, List.drop_zero, List.drop_succ_cons, List.length_map, ↓awD, awP, Nat.reduceLeDiff, Nat.reduceEqDiff, Nat.reduceAdd, Nat.zero_add, Int.cast_ofNat_Int, Int.reduceLT, Int.reduceLE, Int.reduceEq]
    ((first | refine Need.mk (by first | (first | omega | (simp only [decide_eq_true_eq, decide_eq_false_iff_not, Bool.and_eq_true, Bool.not_eq_true', Bool.not_eq_false', List.length_map] at *; omega) | (simp; omega)) | (constructor <;> (first | omega | (simp only [decide_eq_true_eq, decide_eq_false_iff_not, Bool.and_eq_true, Bool.not_eq_true', Bool.not_eq_false', List.length_map] at *; omega) | (simp; omega)))) (Elem.recs hga (by first | (rw [str]; exact ⟨rfl, rfl⟩) | exact ⟨rfl, rfl⟩) ?_) | refine Elem.recs hga (by first | (rw [str]; exact ⟨rfl, rfl⟩) | exact ⟨rfl, rfl⟩) ?_); simp only [str, w3, aw21, aw20, List.take_succ_cons, List.take_zero, List.drop_zero, List.drop_succ_cons, List.length_map, ↓awD, awP, Nat.reduceLeDiff, Nat.reduceEqDiff, Nat.reduceAdd, Nat.zero_add, Int.cast_ofNat_Int, Int.reduceLT, Int.reduceLE, Int.reduceEq])
    cases hm : hasS (l.take i) a
    rotate_left
    · simp only [mget_ent, hm, if_true, aw20, List.take_succ_cons, List.take_zero, List.drop_zero, List.drop_succ_cons, List.length_map, ↓awD, awP, Nat.reduceLeDiff, Nat.reduceEqDiff, Nat.reduceAdd, Nat.zero_add, Int.cast_ofNat_Int, Int.reduceLT, Int.reduceLE, Int.reduceEq]
      refine mGet.some rfl ?_
      simp only [aw20, List.take_succ_cons, List.take_zero, List.drop_zero, List.drop_succ_cons, List.length_map, ↓awD, awP, Nat.reduceLeDiff, Nat.reduceEqDiff, Nat.reduceAdd, Nat.zero_add, Int.cast_ofNat_Int, Int.reduceLT, Int.reduceLE, Int.reduceEq]
      simp only [hm, Bool.not_true, Bool.false_and] at hv
      subst hv
      exact Fin.end hcl rfl (by first | rfl | exact (List.append_nil _).symm | (simp only [List.append_assoc]; rfl)) ⟨rfl, rfl⟩
    · simp only [hm, Bool.not_false, Bool.true_and] at hv
      have hmm : a ∉ l.take i := fun hh => by rw [hasS_iff.2 hh] at hm; cases hm
      simp only [mget_ent, hm, mput_ent a _ hmm, Bool.false_eq_true, if_false, w3, aw20, List.take_succ_cons, List.take_zero, List.drop_zero, List.drop_succ_cons, List.length_map, ↓awD, awP, Nat.reduceLeDiff, Nat.reduceEqDiff, Nat.reduceAdd, Nat.zero_add, Int.cast_ofNat_Int, Int.reduceLT, Int.reduceLE, Int.reduceEq]
      refine mGet.none rfl ?_
      simp only [mget_ent, hm, mput_ent a _ hmm, Bool.false_eq_true, if_false, w3, aw20, List.take_succ_cons, List.take_zero, List.drop_zero, List.drop_succ_cons, List.length_map, ↓awD, awP, Nat.reduceLeDiff, Nat.reduceEqDiff, Nat.reduceAdd, Nat.zero_add, Int.cast_ofNat_Int, Int.reduceLT, Int.reduceLE, Int.reduceEq]
      refine ⟨(i + 1, ()), ⟨hi, by rw [htk]; exact hv⟩, by simp only; omega, weak_of (by simp only; rw [htk]) (by simp [look])⟩
  · rintro _ hv e1
    rw [drop_len] at hv
    unfold onceW at hv
    subst hv
    simp only [e1, aw20, List.take_succ_cons, List.take_zero, List.drop_zero, List.drop_succ_cons, List.length_map, ↓awD, awP, Nat.reduceLeDiff, Nat.reduceEqDiff, Nat.reduceAdd, Nat.zero_add, Int.cast_ofNat_Int, Int.reduceLT, Int.reduceLE, Int.reduceEq]
    exact Fin.end hcl rfl (by first | rfl | exact (List.append_nil _).symm | (simp only [List.append_assoc]; rfl)) ⟨rfl, rfl⟩

theorem sizes_ev (k : Int) (h : List AObj) : EvR E0 75 [i64 k] h (boolv (decide (k = 2) || (decide (k = 5) || (decide (k = 6) || (decide (k = 7) || decide (k = 9)))))) := by
  refine ev_of (fn := Tryz.f75) (hs := []) Tryz.func75 c75 (by simp) fun hcl => ?_
  simp only [ac75, aw20, List.take_succ_cons, List.take_zero, List.drop_zero, List.drop_succ_cons, List.length_map, ↓awD, awP, Nat.reduceLeDiff, Nat.reduceEqDiff, Nat.reduceAdd, Nat.zero_add, Int.cast_ofNat_Int, Int.reduceLT, Int.reduceLE, Int.reduceEq]
  repeat' (refine BrF.mk (fun hb => ?_) (fun hb => ?_) <;> (try rw [hb]) <;> simp only [aw21, aw21, aw20, List.take_succ_cons, List.take_zero, List.drop_zero, List.drop_succ_cons, List.length_map, ↓awD, awP, Nat.reduceLeDiff, Nat.reduceEqDiff, Nat.reduceAdd, Nat.zero_add, Int.cast_ofNat_Int, Int.reduceLT, Int.reduceLE, Int.reduceEq])
  all_goals (refine Fin.end hcl rfl (by first | rfl | exact (List.append_nil _).symm | (simp only [List.append_assoc]; rfl)) ⟨?_, rfl⟩; first | rfl | ((try simp only [dnat, decide_eq_true_eq, decide_eq_false_iff_not, List.length_eq_zero_iff, List.length_pos_iff] at *); first | (simp [*, parted]; done) | (simp [*, parted]; omega) | (clear hcl; simp [*, parted] <;> grind) | (simp [*, parted])))
end Go.Abs.Fr

namespace Go.Abs.Fr
open Go Go.Abs Go.Proofs
set_option linter.unusedSimpArgs false
set_option maxRecDepth 100000

/-- spandrel/table.alphabet -/
def ac65 : ACode := (.seq (.region [⟨(some 2), (.move (.const (.bool false))), none⟩]) (.seq (.seq (.region [⟨(some 4), (.move (.tmp 0)), none⟩, ⟨(some 5), (.len true (.tmp 4)), none⟩, ⟨(some 6), (.move (.const (.int .i64 0))), none⟩]) (.block 0 (.loop (.seq (.region [⟨(some 7), (.bin .lss (.tmp 6) (.tmp 5)), none⟩]) (.seq (.cond (.tmp 7) .skip (.exit 0)) (.seq (.block 1 (.seq (.region [⟨(some 8), (.move (.tmp 6)), none⟩, ⟨(some 3), (.move (.tmp 8)), none⟩]) (.seq (.draw [⟨(some 9), (.move (.tmp 0)), none⟩, ⟨(some 10), (.move (.tmp 3)), none⟩, ⟨(some 11), (.indexS (.tmp 9) (.tmp 10)), none⟩, ⟨(some 12), (.bin .geq (.tmp 11) (.const (.int .u8 128))), none⟩, ⟨(some 13), (.move (.tmp 12)), none⟩, ⟨(some 14), (.move (.tmp 3)), (some (13, false))⟩, ⟨(some 15), (.bin .gtr (.tmp 14) (.const (.int .i64 0))), (some (13, false))⟩, ⟨(some 16), (.move (.tmp 15)), (some (13, false))⟩, ⟨(some 17), (.move (.tmp 0)), (some (16, true))⟩, ⟨(some 18), (.move (.tmp 3)), (some (16, true))⟩, ⟨(some 19), (.bin .sub (.tmp 18) (.const (.int .i64 1))), (some (16, true))⟩, ⟨(some 20), (.indexS (.tmp 17) (.tmp 19)), (some (16, true))⟩, ⟨(some 21), (.move (.tmp 0)), (some (16, true))⟩, ⟨(some 22), (.move (.tmp 3)), (some (16, true))⟩, ⟨(some 23), (.indexS (.tmp 21) (.tmp 22)), (some (16, true))⟩, ⟨(some 24), (.bin .geq (.tmp 20) (.tmp 23)), (some (16, true))⟩, ⟨(some 25), (.pick (.tmp 16) (.tmp 24) (.const (.bool false))), (some (13, false))⟩, ⟨(some 26), (.pick (.tmp 13) (.const (.bool true)) (.tmp 25)), none⟩]) (.cond (.tmp 26) (.seq (.region [⟨(some 2), (.move (.const (.bool false))), none⟩]) .ret) .skip)))) (.region [⟨(some 27), (.bin .add (.tmp 6) (.const (.int .i64 1))), none⟩, ⟨(some 6), (.move (.tmp 27)), none⟩]))))))) (.seq (.region [⟨(some 2), (.move (.const (.bool true))), none⟩]) .ret)))
theorem c65 : cfn E0.P [] Tryz.f65 = some (ac65, [(.tmp 2)], 28) := by kernel_rfl
/-- spandrel/spans.Right -/
def ac77 : ACode := (.seq (.region [⟨(some 2), (.move (.const (.bool false))), none⟩]) (.seq (.seq (.region [⟨(some 5), (.move (.tmp 0)), none⟩, ⟨(some 6), (.len false (.tmp 5)), none⟩, ⟨(some 7), (.move (.const (.int .i64 0))), none⟩]) (.block 0 (.loop (.seq (.region [⟨(some 8), (.bin .lss (.tmp 7) (.tmp 6)), none⟩]) (.seq (.cond (.tmp 8) .skip (.exit 0)) (.seq (.block 1 (.seq (.region [⟨(some 9), (.move (.tmp 7)), none⟩, ⟨(some 10), (.indexAddr 2 (.tmp 5) (.tmp 7)), none⟩, ⟨(some 11), (.load (some 2) (.tmp 10)), none⟩, ⟨(some 4), (.alloc [(.lit (.int .i64 0)), (.lit (.int .i64 0))]), none⟩, ⟨(some 3), (.move (.tmp 9)), none⟩, ⟨none, (.store 2 (.tmp 4) (.tmp 11)), none⟩]) (.seq (.draw [⟨(some 12), (.fieldAddr 0 (.tmp 4)), none⟩, ⟨(some 13), (.load none (.tmp 12)), none⟩, ⟨(some 14), (.fieldAddr 1 (.tmp 4)), none⟩, ⟨(some 15), (.load none (.tmp 14)), none⟩, ⟨(some 16), (.bin .gtr (.tmp 13) (.tmp 15)), none⟩, ⟨(some 17), (.move (.tmp 16)), none⟩, ⟨(some 18), (.move (.tmp 3)), (some (17, false))⟩, ⟨(some 19), (.bin .gtr (.tmp 18) (.const (.int .i64 0))), (some (17, false))⟩, ⟨(some 20), (.move (.tmp 19)), (some (17, false))⟩, ⟨(some 21), (.move (.tmp 0)), (some (20, true))⟩, ⟨(some 22), (.move (.tmp 3)), (some (20, true))⟩, ⟨(some 23), (.bin .sub (.tmp 22) (.const (.int .i64 1))), (some (20, true))⟩, ⟨(some 24), (.indexAddr 2 (.tmp 21) (.tmp 23)), (some (20, true))⟩, ⟨(some 25), (.fieldAddr 1 (.tmp 24)), (some (20, true))⟩, ⟨(some 26), (.load none (.tmp 25)), (some (20, true))⟩, ⟨(some 27), (.bin .eql (.tmp 26) (.const (.int .i64 9223372036854775807))), (some (20, true))⟩, ⟨(some 28), (.move (.tmp 27)), (some (20, true))⟩, ⟨(some 29), (.fieldAddr 0 (.tmp 4)), (some (28, false))⟩, ⟨(some 30), (.load none (.tmp 29)), (some (28, false))⟩, ⟨(some 31), (.move (.tmp 0)), (some (28, false))⟩, ⟨(some 32), (.move (.tmp 3)), (some (28, false))⟩, ⟨(some 33), (.bin .sub (.tmp 32) (.const (.int .i64 1))), (some (28, false))⟩, ⟨(some 34), (.indexAddr 2 (.tmp 31) (.tmp 33)), (some (28, false))⟩, ⟨(some 35), (.fieldAddr 1 (.tmp 34)), (some (28, false))⟩, ⟨(some 36), (.load none (.tmp 35)), (some (28, false))⟩, ⟨(some 37), (.bin .add (.tmp 36) (.const (.int .i64 1))), (some (28, false))⟩, ⟨(some 38), (.bin .leq (.tmp 30) (.tmp 37)), (some (28, false))⟩, ⟨(some 39), (.pick (.tmp 28) (.const (.bool true)) (.tmp 38)), (some (20, true))⟩, ⟨(some 40), (.pick (.tmp 20) (.tmp 39) (.const (.bool false))), (some (17, false))⟩, ⟨(some 41), (.pick (.tmp 17) (.const (.bool true)) (.tmp 40)), none⟩]) (.cond (.tmp 41) (.seq (.region [⟨(some 2), (.move (.const (.bool false))), none⟩]) .ret) .skip)))) (.region [⟨(some 42), (.bin .add (.tmp 7) (.const (.int .i64 1))), none⟩, ⟨(some 7), (.move (.tmp 42)), none⟩]))))))) (.seq (.region [⟨(some 2), (.move (.const (.bool true))), none⟩]) .ret)))
theorem c77 : cfn E0.P [] Tryz.f77 = some (ac77, [(.tmp 2)], 43) := by kernel_rfl

def alphaW : Option UInt8 → List UInt8 → Bool
  | _, [] => true
  | p, c :: l => decide (c.toNat < 128) && ((match p with | none => true | some q => decide (q.toNat < c.toNat)) && alphaW (some c) l)
def alphaT (s : ByteArray) : Bool := alphaW none s.data.toList
def prevB (l : List UInt8) (i : Nat) : Option UInt8 := match i with | 0 => none | i + 1 => l[i]?

theorem alphabet_ev (s : ByteArray) (hs : s.size < 2 ^ 60) (h : List AObj) : EvR E0 65 [str s] h (boolv (alphaT s)) := by
  refine ev_of (fn := Tryz.f65) (hs := []) Tryz.func65 c65 (by simp) fun hcl => ?_
  have hsz : s.size = s.data.toList.length := by simp
  unfold alphaT
  generalize hR : alphaW none s.data.toList = R
  simp only [ac65, aw20, List.take_succ_cons, List.take_zero, List.drop_zero, List.drop_succ_cons, List.length_map, ↓awD, awP, Nat.reduceLeDiff, Nat.reduceEqDiff, Nat.reduceAdd, Nat.zero_add, Int.cast_ofNat_Int, Int.reduceLT, Int.reduceLE, Int.reduceEq]
  refine LoopF.list s.data.toList (by omega) (γ := Unit) (fun i _ => ⟨[(0, str s), (5, i64 s.size), (6, i64 i)], h⟩) (fun i _ => alphaW (prevB s.data.toList i) (s.data.toList.drop i) = R) () (by simpa [prevB] using hR) (weak_of rfl (by simp [look])) ?_ ?_
  · rintro i a _ ha hv hi e1 w3
    rw [drop_get ha] at hv
    simp only [alphaW] at hv
    rw [← hsz] at hi e1
    have hnx : prevB s.data.toList (i + 1) = some a := ha
    have d1 : decide ((128 : Int) ≤ (a.toNat : Int)) = !decide (a.toNat < 128) := by rw [Bool.eq_iff_iff]; simp; omega
    have w00 : IntKind.i64.wrap 1 = 1 := wrap_i64 1 (by omega) (by omega)
    cases i with
    | zero =>
      simp only [prevB] at hv
      have e0 : decide ((0 : Int) < (s.size : Int)) = true := by simp; omega
      simp only [e0, e1, w3, Int.cast_ofNat_Int, aw20, List.take_succ_cons, List.take_zero, List.drop_zero, List.drop_succ_cons, List.length_map, ↓awD, awP, Nat.reduceLeDiff, Nat.reduceEqDiff, Nat.reduceAdd, Nat.zero_add, Int.cast_ofNat_Int, Int.reduceLT, Int.reduceLE, Int.reduceEq]
      repeat' (first | ((first | refine Need.mk (by first | (constructor <;> (first | omega | (simp only [decide_eq_true_eq, decide_eq_false_iff_not, Bool.and_eq_true, Bool.not_eq_true', Bool.not_eq_false', List.length_map] at *; omega) | (simp; omega))) | (first | omega | (simp only [decide_eq_true_eq, decide_eq_false_iff_not, Bool.and_eq_true, Bool.not_eq_true', Bool.not_eq_false', List.length_map] at *; omega) | (simp; omega))) (Byte.at ha ?_) | refine Byte.at ha ?_); simp only [d1, w3, szl, aw20, List.take_succ_cons, List.take_zero, List.drop_zero, List.drop_succ_cons, List.length_map, ↓awD, awP, Nat.reduceLeDiff, Nat.reduceEqDiff, Nat.reduceAdd, Nat.zero_add, Int.cast_ofNat_Int, Int.reduceLT, Int.reduceLE, Int.reduceEq]) | (refine Need.mk (by first | decide | (first | omega | (simp only [decide_eq_true_eq, decide_eq_false_iff_not, Bool.and_eq_true, Bool.not_eq_true', Bool.not_eq_false', List.length_map] at *; omega) | (simp; omega)) | (constructor <;> (first | omega | (simp only [decide_eq_true_eq, decide_eq_false_iff_not, Bool.and_eq_true, Bool.not_eq_true', Bool.not_eq_false', List.length_map] at *; omega) | (simp; omega)))) ?_; simp only [w3, szl, aw20, List.take_succ_cons, List.take_zero, List.drop_zero, List.drop_succ_cons, List.length_map, ↓awD, awP, Nat.reduceLeDiff, Nat.reduceEqDiff, Nat.reduceAdd, Nat.zero_add, Int.cast_ofNat_Int, Int.reduceLT, Int.reduceLE, Int.reduceEq]) | (refine BrF.mk (fun hb => ?_) (fun hb => ?_) <;> (try rw [hb]) <;> simp only [d1, w3, aw21, aw20, List.take_succ_cons, List.take_zero, List.drop_zero, List.drop_succ_cons, List.length_map, ↓awD, awP, Nat.reduceLeDiff, Nat.reduceEqDiff, Nat.reduceAdd, Nat.zero_add, Int.cast_ofNat_Int, Int.reduceLT, Int.reduceLE, Int.reduceEq]))
      all_goals (simp only [*, Bool.not_true, Bool.not_false, Bool.true_and, Bool.false_and] at hv)
      all_goals first
        | exact ⟨(0 + 1, ()), ⟨by simp only; omega, by simp only [hnx]; exact hv⟩, by simp only; omega, weak_of rfl (by simp [look, w00])⟩
        | (subst hv; exact Fin.end hcl rfl (by first | rfl | exact (List.append_nil _).symm | (simp only [List.append_assoc]; rfl)) ⟨rfl, rfl⟩)
    | succ j =>
      obtain ⟨q, hq⟩ : ∃ q, s.data.toList[j]? = some q := ⟨_, List.getElem?_eq_getElem (by omega)⟩
      have hpv : prevB s.data.toList (j + 1) = some q := hq
      rw [hpv] at hv
      simp only at hv
      have d2 : decide ((a.toNat : Int) ≤ (q.toNat : Int)) = !decide (q.toNat < a.toNat) := by rw [Bool.eq_iff_iff]; simp
      have d3 : decide ((0 : Int) < ((j + 1 : Nat) : Int)) = true := by simp
      have w1 : IntKind.i64.wrap (((j + 1 : Nat) : Int) - 1) = ((j : Nat) : Int) := by rw [wrap_i64] <;> omega
      simp only [e1, w3, d1, d2, d3, w1, aw20, List.take_succ_cons, List.take_zero, List.drop_zero, List.drop_succ_cons, List.length_map, ↓awD, awP, Nat.reduceLeDiff, Nat.reduceEqDiff, Nat.reduceAdd, Nat.zero_add, Int.cast_ofNat_Int, Int.reduceLT, Int.reduceLE, Int.reduceEq]
      repeat' (first | ((first | refine Need.mk (by first | (constructor <;> (first | omega | (simp only [decide_eq_true_eq, decide_eq_false_iff_not, Bool.and_eq_true, Bool.not_eq_true', Bool.not_eq_false', List.length_map] at *; omega) | (simp; omega))) | (first | omega | (simp only [decide_eq_true_eq, decide_eq_false_iff_not, Bool.and_eq_true, Bool.not_eq_true', Bool.not_eq_false', List.length_map] at *; omega) | (simp; omega))) (Byte.at ha ?_) | refine Byte.at ha ?_); simp only [d1, d2, d3, w1, w3, szl, aw20, List.take_succ_cons, List.take_zero, List.drop_zero, List.drop_succ_cons, List.length_map, ↓awD, awP, Nat.reduceLeDiff, Nat.reduceEqDiff, Nat.reduceAdd, Nat.zero_add, Int.cast_ofNat_Int, Int.reduceLT, Int.reduceLE, Int.reduceEq]) | ((first | refine Need.mk (by first | (constructor <;> (first | omega | (simp only [decide_eq_true_eq, decide_eq_false_iff_not, Bool.and_eq_true, Bool.not_eq_true', Bool.not_eq_false', List.length_map] at *; omega) | (simp; omega))) | (first | omega | (simp only [decide_eq_true_eq, decide_eq_false_iff_not, Bool.and_eq_true, Bool.not_eq_true', Bool.not_eq_false', List.length_map] at *; omega) | (simp; omega))) (Byte.at hq ?_) | refine Byte.at hq ?_); simp only [d1, d2, d3, w1, w3, szl, aw20, List.take_succ_cons, List.take_zero, List.drop_zero, List.drop_succ_cons, List.length_map, ↓awD, awP, Nat.reduceLeDiff, Nat.reduceEqDiff, Nat.reduceAdd, Nat.zero_add, Int.cast_ofNat_Int, Int.reduceLT, Int.reduceLE, Int.reduceEq]) | (refine Need.mk (by first | decide | (first | omega | (simp only [decide_eq_true_eq, decide_eq_false_iff_not, Bool.and_eq_true, Bool.not_eq_true', Bool.not_eq_false', List.length_map] at *; omega) | (simp; omega)) | (constructor <;> (first | omega | (simp only [decide_eq_true_eq, decide_eq_false_iff_not, Bool.and_eq_true, Bool.not_eq_true', Bool.not_eq_false', List.length_map] at *; omega) | (simp; omega)))) ?_; simp only [w3, szl, aw20, List.take_succ_cons, List.take_zero, List.drop_zero, List.drop_succ_cons, List.length_map, ↓awD, awP, Nat.reduceLeDiff, Nat.reduceEqDiff, Nat.reduceAdd, Nat.zero_add, Int.cast_ofNat_Int, Int.reduceLT, Int.reduceLE, Int.reduceEq]) | (refine BrF.mk (fun hb => ?_) (fun hb => ?_) <;> (try rw [hb]) <;> simp only [d1, d2, d3, w1, w3, aw21, aw20, List.take_succ_cons, List.take_zero, List.drop_zero, List.drop_succ_cons, List.length_map, ↓awD, awP, Nat.reduceLeDiff, Nat.reduceEqDiff, Nat.reduceAdd, Nat.zero_add, Int.cast_ofNat_Int, Int.reduceLT, Int.reduceLE, Int.reduceEq]))
      all_goals (simp only [*, Bool.not_true, Bool.not_false, Bool.true_and, Bool.false_and] at hv)
      all_goals first
        | exact ⟨(j + 1 + 1, ()), ⟨by simp only; omega, by simp only [hnx]; exact hv⟩, by simp only; omega, weak_of rfl (by simp [look, w00])⟩
        | (subst hv; exact Fin.end hcl rfl (by first | rfl | exact (List.append_nil _).symm | (simp only [List.append_assoc]; rfl)) ⟨rfl, rfl⟩)
  · rintro _ hv e1
    rw [drop_len] at hv
    simp only [alphaW] at hv
    subst hv
    have e2 : decide ((s.data.toList.length : Int) < s.size) = false := by rw [hsz]; simp
    simp only [e2, aw20, List.take_succ_cons, List.take_zero, List.drop_zero, List.drop_succ_cons, List.length_map, ↓awD, awP, Nat.reduceLeDiff, Nat.reduceEqDiff, Nat.reduceAdd, Nat.zero_add, Int.cast_ofNat_Int, Int.reduceLT, Int.reduceLE, Int.reduceEq]
    exact Fin.end hcl rfl (by first | rfl | exact (List.append_nil _).symm | (simp only [List.append_assoc]; rfl)) ⟨rfl, rfl⟩

/-! Sets. -/
def rightW : Option Rg → List Rg → Bool
  | _, [] => true
  | p, x :: l => !decide (x.hi < x.lo) && ((match p with | none => true | some q => !decide (q.hi = 9223372036854775807) && !decide (x.lo ≤ q.hi + 1)) && rightW (some x) l)
def rightS (l : List Rg) : Bool := rightW none l
def prevR (l : List Rg) (i : Nat) : Option Rg := match i with | 0 => none | i + 1 => l[i]?
theorem right_ev (l : List Rg) (hl : l.length < 2 ^ 60) (h : List AObj) : EvR E0 77 [rgl l] h (boolv (rightS l)) := by
  refine ev_of (fn := Tryz.f77) (hs := []) Tryz.func77 c77 (by simp) fun hcl => ?_
  unfold rightS
  generalize hR : rightW none l = R
  simp only [ac77, aw20, List.take_succ_cons, List.take_zero, List.drop_zero, List.drop_succ_cons, List.length_map, ↓awD, awP, Nat.reduceLeDiff, Nat.reduceEqDiff, Nat.reduceAdd, Nat.zero_add, Int.cast_ofNat_Int, Int.reduceLT, Int.reduceLE, Int.reduceEq]
  refine LoopF.list l hl (γ := List AObj) (fun i J => ⟨[(0, rgl l), (5, rgl l), (6, i64 l.length), (7, i64 i)], h ++ J⟩) (fun i _ => rightW (prevR l i) (l.drop i) = R) [] (by simpa [prevR] using hR) (weak_of (by simp) (by simp [look])) ?_ ?_
  · rintro i a J ha hv hi e1 w3
    rw [drop_get ha] at hv
    simp only [rightW] at hv
    have hga := map_get rgv l i a ha
    have hnx : prevR l (i + 1) = some a := ha
    have w00 : IntKind.i64.wrap 1 = 1 := wrap_i64 1 (by omega) (by omega)
    cases i with
    | zero =>
      simp only [prevR] at hv
      have e0 : decide ((0 : Int) < (l.length : Int)) = true := by simp; omega
      simp only [e0, e1, w3, Int.cast_ofNat_Int, getJ, setJ, aw20, List.take_succ_cons, List.take_zero, List.drop_zero, List.drop_succ_cons, List.length_map, ↓awD, awP, Nat.reduceLeDiff, Nat.reduceEqDiff, Nat.reduceAdd, Nat.zero_add, Int.cast_ofNat_Int, Int.reduceLT, Int.reduceLE, Int.reduceEq]
      repeat' (first | ((first | refine Need.mk (by first | (first | omega | (simp only [decide_eq_true_eq, decide_eq_false_iff_not, Bool.and_eq_true, Bool.not_eq_true', Bool.not_eq_false', List.length_map] at *; omega) | (simp; omega)) | (constructor <;> (first | omega | (simp only [decide_eq_true_eq, decide_eq_false_iff_not, Bool.and_eq_true, Bool.not_eq_true', Bool.not_eq_false', List.length_map] at *; omega) | (simp; omega)))) (Elem.recs hga (by first | (rw [rgv_eq]; exact ⟨rfl, rfl⟩) | exact ⟨rfl, rfl⟩) ?_) | refine Elem.recs hga (by first | (rw [rgv_eq]; exact ⟨rfl, rfl⟩) | exact ⟨rfl, rfl⟩) ?_); simp only [rgv_eq, w3, e0, getJ, setJ, aw21, aw20, List.take_succ_cons, List.take_zero, List.drop_zero, List.drop_succ_cons, List.length_map, ↓awD, awP, Nat.reduceLeDiff, Nat.reduceEqDiff, Nat.reduceAdd, Nat.zero_add, Int.cast_ofNat_Int, Int.reduceLT, Int.reduceLE, Int.reduceEq]) | (refine Need.mk (by first | decide | (first | omega | (simp only [decide_eq_true_eq, decide_eq_false_iff_not, Bool.and_eq_true, Bool.not_eq_true', Bool.not_eq_false', List.length_map] at *; omega) | (simp; omega)) | (constructor <;> (first | omega | (simp only [decide_eq_true_eq, decide_eq_false_iff_not, Bool.and_eq_true, Bool.not_eq_true', Bool.not_eq_false', List.length_map] at *; omega) | (simp; omega)))) ?_; simp only [w3, szl, aw20, List.take_succ_cons, List.take_zero, List.drop_zero, List.drop_succ_cons, List.length_map, ↓awD, awP, Nat.reduceLeDiff, Nat.reduceEqDiff, Nat.reduceAdd, Nat.zero_add, Int.cast_ofNat_Int, Int.reduceLT, Int.reduceLE, Int.reduceEq]) | (refine BrF.mk (fun hb => ?_) (fun hb => ?_) <;> (try rw [hb]) <;> simp only [w3, getJ, setJ, aw21, aw20, List.take_succ_cons, List.take_zero, List.drop_zero, List.drop_succ_cons, List.length_map, ↓awD, awP, Nat.reduceLeDiff, Nat.reduceEqDiff, Nat.reduceAdd, Nat.zero_add, Int.cast_ofNat_Int, Int.reduceLT, Int.reduceLE, Int.reduceEq]))
      all_goals (simp only [*, Bool.not_true, Bool.not_false, Bool.true_and, Bool.false_and, Bool.and_false, Bool.false_eq_true] at hv)
      all_goals first
        | exact ⟨(0 + 1, J ++ [AObj.cells [i64 a.lo, i64 a.hi]]), ⟨by simp only; omega, by simp only [hnx]; exact hv⟩, by simp only; omega, weak_of (List.append_assoc ..).symm (by simp [look, w00])⟩
        | (subst hv; exact Fin.end hcl rfl (by first | rfl | exact (List.append_nil _).symm | (simp only [List.append_assoc]; rfl)) ⟨rfl, rfl⟩)
    | succ j =>
      obtain ⟨q, hq⟩ : ∃ q, l[j]? = some q := ⟨_, List.getElem?_eq_getElem (by omega)⟩
      have hgq := map_get rgv l j q hq
      have hpv : prevR l (j + 1) = some q := hq
      rw [hpv] at hv
      simp only at hv
      have d3 : decide ((0 : Int) < ((j + 1 : Nat) : Int)) = true := by simp
      have w1 : IntKind.i64.wrap (((j + 1 : Nat) : Int) - 1) = ((j : Nat) : Int) := by rw [wrap_i64] <;> omega
      cases hm : decide (q.hi = 9223372036854775807)
      · have wq : IntKind.i64.wrap (q.hi + 1) = q.hi + 1 := by
          rw [decide_eq_false_iff_not] at hm
          have := q.ok.2
          unfold InR at this
          rw [wrap_i64] <;> omega
        simp only [e1, w3, d3, w1, getJ, setJ, aw20, List.take_succ_cons, List.take_zero, List.drop_zero, List.drop_succ_cons, List.length_map, ↓awD, awP, Nat.reduceLeDiff, Nat.reduceEqDiff, Nat.reduceAdd, Nat.zero_add, Int.cast_ofNat_Int, Int.reduceLT, Int.reduceLE, Int.reduceEq]
        repeat' (first | ((first | refine Need.mk (by first | (first | omega | (simp only [decide_eq_true_eq, decide_eq_false_iff_not, Bool.and_eq_true, Bool.not_eq_true', Bool.not_eq_false', List.length_map] at *; omega) | (simp; omega)) | (constructor <;> (first | omega | (simp only [decide_eq_true_eq, decide_eq_false_iff_not, Bool.and_eq_true, Bool.not_eq_true', Bool.not_eq_false', List.length_map] at *; omega) | (simp; omega)))) (Elem.recs hga (by first | (rw [rgv_eq]; exact ⟨rfl, rfl⟩) | exact ⟨rfl, rfl⟩) ?_) | refine Elem.recs hga (by first | (rw [rgv_eq]; exact ⟨rfl, rfl⟩) | exact ⟨rfl, rfl⟩) ?_); simp only [rgv_eq, w3, d3, w1, hm, wq, getJ, setJ, aw21, aw20, List.take_succ_cons, List.take_zero, List.drop_zero, List.drop_succ_cons, List.length_map, ↓awD, awP, Nat.reduceLeDiff, Nat.reduceEqDiff, Nat.reduceAdd, Nat.zero_add, Int.cast_ofNat_Int, Int.reduceLT, Int.reduceLE, Int.reduceEq]) | ((first | refine Need.mk (by first | (first | omega | (simp only [decide_eq_true_eq, decide_eq_false_iff_not, Bool.and_eq_true, Bool.not_eq_true', Bool.not_eq_false', List.length_map] at *; omega) | (simp; omega)) | (constructor <;> (first | omega | (simp only [decide_eq_true_eq, decide_eq_false_iff_not, Bool.and_eq_true, Bool.not_eq_true', Bool.not_eq_false', List.length_map] at *; omega) | (simp; omega)))) (Elem.recs hgq (by first | (rw [rgv_eq]; exact ⟨rfl, rfl⟩) | exact ⟨rfl, rfl⟩) ?_) | refine Elem.recs hgq (by first | (rw [rgv_eq]; exact ⟨rfl, rfl⟩) | exact ⟨rfl, rfl⟩) ?_); simp only [rgv_eq, w3, d3, w1, hm, wq, getJ, setJ, aw21, aw20, List.take_succ_cons, List.take_zero, List.drop_zero, List.drop_succ_cons, List.length_map, ↓awD, awP, Nat.reduceLeDiff, Nat.reduceEqDiff, Nat.reduceAdd, Nat.zero_add, Int.cast_ofNat_Int, Int.reduceLT, Int.reduceLE, Int.reduceEq]) | (refine Need.mk (by first | decide | (first | omega | (simp only [decide_eq_true_eq, decide_eq_false_iff_not, Bool.and_eq_true, Bool.not_eq_true', Bool.not_eq_false', List.length_map] at *; omega) | (simp; omega)) | (constructor <;> (first | omega | (simp only [decide_eq_true_eq, decide_eq_false_iff_not, Bool.and_eq_true, Bool.not_eq_true', Bool.not_eq_false', List.length_map] at *; omega) | (simp; omega)))) ?_; simp only [w3, szl, aw20, List.take_succ_cons, List.take_zero, List.drop_zero, List.drop_succ_cons, List.length_map, ↓awD, awP, Nat.reduceLeDiff, Nat.reduceEqDiff, Nat.reduceAdd, Nat.zero_add, Int.cast_ofNat_Int, Int.reduceLT, Int.reduceLE, Int.reduceEq]) | (refine BrF.mk (fun hb => ?_) (fun hb => ?_) <;> (try rw [hb]) <;> simp only [w3, d3, w1, hm, wq, getJ, setJ, aw21, aw20, List.take_succ_cons, List.take_zero, List.drop_zero, List.drop_succ_cons, List.length_map, ↓awD, awP, Nat.reduceLeDiff, Nat.reduceEqDiff, Nat.reduceAdd, Nat.zero_add, Int.cast_ofNat_Int, Int.reduceLT, Int.reduceLE, Int.reduceEq]))
        all_goals (simp only [*, Bool.not_true, Bool.not_false, Bool.true_and, Bool.false_and, Bool.and_false, Bool.false_eq_true] at hv)
        all_goals first
        | exact ⟨(j + 1 + 1, J ++ [AObj.cells [i64 a.lo, i64 a.hi]]), ⟨by simp only; omega, by simp only [hnx]; exact hv⟩, by simp only; omega, weak_of (List.append_assoc ..).symm (by simp [look, w00])⟩
        | (subst hv; exact Fin.end hcl rfl (by first | rfl | exact (List.append_nil _).symm | (simp only [List.append_assoc]; rfl)) ⟨rfl, rfl⟩)
      · simp only [e1, w3, d3, w1, getJ, setJ, aw20, List.take_succ_cons, List.take_zero, List.drop_zero, List.drop_succ_cons, List.length_map, ↓awD, awP, Nat.reduceLeDiff, Nat.reduceEqDiff, Nat.reduceAdd, Nat.zero_add, Int.cast_ofNat_Int, Int.reduceLT, Int.reduceLE, Int.reduceEq]
        repeat' (first | ((first | refine Need.mk (by first | (first | omega | (simp only [decide_eq_true_eq, decide_eq_false_iff_not, Bool.and_eq_true, Bool.not_eq_true', Bool.not_eq_false', List.length_map] at *; omega) | (simp; omega)) | (constructor <;> (first | omega | (simp only [decide_eq_true_eq, decide_eq_false_iff_not, Bool.and_eq_true, Bool.not_eq_true', Bool.not_eq_false', List.length_map] at *; omega) | (simp; omega)))) (Elem.recs hga (by first | (rw [rgv_eq]; exact ⟨rfl, rfl⟩) | exact ⟨rfl, rfl⟩) ?_) | refine Elem.recs hga (by first | (rw [rgv_eq]; exact ⟨rfl, rfl⟩) | exact ⟨rfl, rfl⟩) ?_); simp only [rgv_eq, w3, d3, w1, hm, getJ, setJ, aw21, aw20, List.take_succ_cons, List.take_zero, List.drop_zero, List.drop_succ_cons, List.length_map, ↓awD, awP, Nat.reduceLeDiff, Nat.reduceEqDiff, Nat.reduceAdd, Nat.zero_add, Int.cast_ofNat_Int, Int.reduceLT, Int.reduceLE, Int.reduceEq]) | ((first | refine Need.mk (by first | (first | omega | (simp only [decide_eq_true_eq, decide_eq_false_iff_not, Bool.and_eq_true, Bool.not_eq_true', Bool.not_eq_false', List.length_map] at *; omega) | (simp; omega)) | (constructor <;> (first | omega | (simp only [decide_eq_true_eq, decide_eq_false_iff_not, Bool.and_eq_true, Bool.not_eq_true', Bool.not_eq_false', List.length_map] at *; omega) | (simp; omega)))) (Elem.recs hgq (by first | (rw [rgv_eq]; exact ⟨rfl, rfl⟩) | exact ⟨rfl, rfl⟩) ?_) | refine Elem.recs hgq (by first | (rw [rgv_eq]; exact ⟨rfl, rfl⟩) | exact ⟨rfl, rfl⟩) ?_); simp only [rgv_eq, w3, d3, w1, hm, getJ, setJ, aw21, aw20, List.take_succ_cons, List.take_zero, List.drop_zero, List.drop_succ_cons, List.length_map, ↓awD, awP, Nat.reduceLeDiff, Nat.reduceEqDiff, Nat.reduceAdd, Nat.zero_add, Int.cast_ofNat_Int, Int.reduceLT, Int.reduceLE, Int.reduceEq]) | (refine Need.mk (by first | decide | (first | omega | (simp only [decide_eq_true_eq, decide_eq_false_iff_not, Bool.and_eq_true, Bool.not_eq_true', Bool.not_eq_false', List.length_map] at *; omega) | (simp; omega)) | (constructor <;> (first | omega | (simp only [decide_eq_true_eq, decide_eq_false_iff_not, Bool.and_eq_true, Bool.not_eq_true', Bool.not_eq_false', List.length_map] at *; omega) | (simp; omega)))) ?_; simp only [w3, szl, aw20, List.take_succ_cons, List.take_zero, List.drop_zero, List.drop_succ_cons, List.length_map, ↓awD, awP, Nat.reduceLeDiff, Nat.reduceEqDiff, Nat.reduceAdd, Nat.zero_add, Int.cast_ofNat_Int, Int.reduceLT, Int.reduceLE, Int.reduceEq]) | (refine BrF.mk (fun hb => ?_) (fun hb => ?_) <;> (try rw [hb]) <;> simp only [w3, d3, w1, hm, getJ, setJ, aw21, aw20, List.take_succ_cons, List.take_zero, List.drop_zero, List.drop_succ_cons, List.length_map, ↓awD, awP, Nat.reduceLeDiff, Nat.reduceEqDiff, Nat.reduceAdd, Nat.zero_add, Int.cast_ofNat_Int, Int.reduceLT, Int.reduceLE, Int.reduceEq]))
        all_goals (simp only [*, Bool.not_true, Bool.not_false, Bool.true_and, Bool.false_and, Bool.and_false, Bool.false_eq_true] at hv)
        all_goals first
        | exact ⟨(j + 1 + 1, J ++ [AObj.cells [i64 a.lo, i64 a.hi]]), ⟨by simp only; omega, by simp only [hnx]; exact hv⟩, by simp only; omega, weak_of (List.append_assoc ..).symm (by simp [look, w00])⟩
        | (subst hv; exact Fin.end hcl rfl (by first | rfl | exact (List.append_nil _).symm | (simp only [List.append_assoc]; rfl)) ⟨rfl, rfl⟩)
  · rintro J hv e1
    rw [drop_len] at hv
    simp only [rightW] at hv
    subst hv
    simp only [e1, aw20, List.take_succ_cons, List.take_zero, List.drop_zero, List.drop_succ_cons, List.length_map, ↓awD, awP, Nat.reduceLeDiff, Nat.reduceEqDiff, Nat.reduceAdd, Nat.zero_add, Int.cast_ofNat_Int, Int.reduceLT, Int.reduceLE, Int.reduceEq]
    exact Fin.end hcl rfl (by first | rfl | exact (List.append_nil _).symm | (simp only [List.append_assoc]; rfl)) ⟨rfl, rfl⟩
end Go.Abs.Fr
